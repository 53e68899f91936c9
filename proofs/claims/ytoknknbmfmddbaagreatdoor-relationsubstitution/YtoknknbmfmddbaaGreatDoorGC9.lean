/- Texts of this claim, joined (the program, its functions in plain words, and what they compute). -/
import Derived.Test.YtoknknbmfmddbaaGreatDoorGC8
set_option autoImplicit false
set_option linter.unusedVariables false
set_option linter.unusedSectionVars false
set_option linter.unusedSimpArgs false
set_option maxRecDepth 1000000
set_option maxHeartbeats 0
/- Texts of annotations can be read back: equal texts of factors are texts of equal factors. -/
noncomputable section
namespace Go.Proofs.YtoknknbmfmddbaaGreatDoor
open Go Go.Ab
theorem zbdr:∀ n,
  (∀ m a,zbi m a=true->zgz a->3*m<=n->zpL n a=(true,bs (txN a)))/\
  (∀ m x,zdj (zbi m) x=true->zgn x->x.Items.length<=1024->3*m+1<=n->zmj n x=(true,bs (txA x)))/\
  (∀ m (l:yC),l.length<=1000->(∀ f∈l,zdj (zbi m) f.At=true/\zgn f.At/\f.At.Items.length<=1024/\rng f.Exp)->3*m+2<=n->zgV n l=(true,bs (txL l)))
 | 0=>by
  refine ⟨?_, ?_, ?_⟩
  ·intro m a h _ hm; have:m=0:=by omega
   subst this; cases h
  all_goals (intros; omega)
 | n+1=>by
  obtain ⟨h1,h2,h3⟩:=zbdr n;refine ⟨?_, ?_, ?_⟩
  ·intro m a h hw hm;cases m with
   | zero=>cases h
   | succ m=>
    have hl:=ztG (zH7 h);have hlen:=(z0H (m+1)).1 a h;rw [zU9];refine zblX _ a (by omega) (by omega) λt ht=> ?_
    obtain ⟨⟨c1,c2⟩,hok⟩:=zwm h ht;obtain ⟨q1,q2⟩:=hl.2.2.2 t ht;have hwt:=zlT (ztI (zqG hw t ht)).2.1;refine ⟨h3 m t.Fs (by omega) (λf hf=> ?_) (by omega), ?_,by constructor <;>omega⟩
    ·obtain ⟨⟨e1,_⟩,hv⟩:=zqo hok hf;exact ⟨hv,(znH (hwt f hf)).1,(q2 f hf).2,by have:=(q2 f hf).1; constructor <;>omega⟩
    ·refine q18 (zbcZ λf hf=>(z0H m).2 _ (zqo hok hf).2) ?_
     have hs:t.Fs.length+zbK t.Fs<=zO a:=by
      clear hok q1 q2 hwt hw h hlen hl;induction a with
      | nil=>cases ht
      | cons b r ih=>
       rw [zf7];rcases q8.1 ht with rfl | ht
       ·omega
       ·have:=ih ht; omega
     omega
  ·intro m x h hw hi hm;rw [zKg];have W:=zng hw;refine zbnc _ x h hw hi λa ha=> ?_
   have hv:zbi m a=true/\zgz a:=by
    rcases ha with ha | ⟨w,hw',rfl⟩
    ·refine ⟨?_,(zhD W.1.1 a ha).1⟩;cases zcZ.1 h with
     | var r h=>cases ha
     | mon b c hb hc _ _ _=>
      simp only [q8,q16,or_false] at ha;rcases ha with rfl | rfl
      ·exact hb
      ·exact hc
     | del b hb _ _ _=>rw [qj] at ha; subst ha; exact hb
     | abs b hb _ _=>rw [qj] at ha; subst ha; exact hb
     | tst f l o b hl hi hs hf=>cases ha
    ·refine ⟨?_,(zga W.2.1.1 w hw').2.1⟩;cases zcZ.1 h with
     | tst f l o b hl hi2 hs hf=>exact (hi2 w hw').1
     | _=>cases hw'
   refine ⟨h1 m a hv.1 hv.2 (by omega), ?_⟩
   have q1:=(z0H m).1 a hv.1;have q2:=(zeM hv.1).2.1;omega
  ·intro m l hl h hm;rw [zGg];refine zbmz _ l hl λf hf=> ?_
   obtain ⟨q1,q2,q3,q4⟩:=h f hf;refine ⟨h2 m f.At q1 q2 q3 (by omega), ?_,q4⟩
   have q5:=(z0H m).2 f.At q1;have q6:=z2G q1 q3;omega
def hd (S:List UInt8) (u:List UInt8):Prop:=∀ c,u.head? =some c->c∈S
theorem zqQ {S:List UInt8} {c:UInt8} {u:List UInt8} (h:c∈S):hd S (c::u):=λd hd=>by
 simp only [List.head?_cons,q0] at hd; subst hd; exact h
theorem hd.mono {S T:List UInt8} {u:List UInt8} (h:hd S u) (hs:∀ c∈S,c∈T):hd T u:=λc hc=>hs c (h c hc)
theorem hd.noDig {S:List UInt8} {u:List UInt8} (h:hd S u) (hs:∀ c∈S,zsz c=false):noDig u:=λc hc=>hs c (h c hc)
theorem hd.ne {S:List UInt8} {u:List UInt8} (h:hd S u) {c:UInt8} (hs:c∉S):u.head? ≠some c:=λe=>hs (h c e)
theorem hd.cons_ne {S:List UInt8} {u:List UInt8} {c:UInt8} (h:hd S (c::u)) (hs:c∉S):False:=hs (h c rfl)
theorem zPN {α:Type} (tx:α->List UInt8) (S0:List UInt8) (s0:UInt8) (sr:List UInt8) (P:α->Prop) (hS:s0∉S0) (hR:∀ x y,P x->P y->∀ u v,hd (s0::S0) u->hd (s0::S0) v->tx x++u=tx y++v->x=y/\u=v):
  ∀ l l':List α,l≠[]->l'≠[]->(∀ x∈l,P x)->(∀ x∈l',P x)->∀ u v,hd S0 u->hd S0 v->zeX (l.map tx) (s0::sr)++u=zeX (l'.map tx) (s0::sr)++v->l=l'/\u=v
 | [],_,h,_,_,_,_,_,_,_,_=>absurd rfl h
 | _::_,[],_,h,_,_,_,_,_,_,_=>absurd rfl h
 | [x],[y],_,_,hx,hy,u,v,hu,hv,h=>by
  have mono:∀ c∈S0,c∈s0::S0:=λc hc=>q1y _ hc
  obtain ⟨h1,h2⟩:=hR x y (hx x (by simp)) (hy y (by simp)) u v (hu.mono mono) (hv.mono mono) h
  exact ⟨by rw [h1],h2⟩
 | [x],y::y'::r',_,_,hx,hy,u,v,hu,hv,h=>by
  have mono:∀ c∈S0,c∈s0::S0:=λc hc=>q1y _ hc
  simp only [List.map,zeX,qu] at h;obtain ⟨h1,h2⟩:=hR x y (hx x (by simp)) (hy y (by simp)) u _ (hu.mono mono) (zqQ (by simp)) h
  rw [h2] at hu;exact (hu.cons_ne hS).elim
 | x::x'::r,[y],_,_,hx,hy,u,v,hu,hv,h=>by
  have mono:∀ c∈S0,c∈s0::S0:=λc hc=>q1y _ hc
  simp only [List.map,zeX,qu] at h;obtain ⟨h1,h2⟩:=hR x y (hx x (by simp)) (hy y (by simp)) _ v (zqQ (by simp)) (hv.mono mono) h
  rw [<- h2] at hv;exact (hv.cons_ne hS).elim
 | x::x'::r,y::y'::r',_,_,hx,hy,u,v,hu,hv,h=>by
  have h:zeX (((x::x'::r)).map tx) (s0::sr)++u=zeX (((y::y'::r')).map tx) (s0::sr)++v:=h;simp only [List.map,zeX,qu] at h;obtain ⟨h1,h2⟩:=hR x y (hx x (by simp)) (hy y (by simp)) _ _ (zqQ (by simp)) (zqQ (by simp)) h
  have h3:=(List.append_right_inj sr).1 (List.cons.inj h2).2;obtain ⟨h4,h5⟩:=zPN tx S0 s0 sr P hS hR (x'::r) (y'::r') (by simp) (by simp) (λz hz=>hx z (q1y _ hz)) (λz hz=>hy z (q1y _ hz)) u v hu hv h3
  exact ⟨by rw [h1,h4],h5⟩
theorem zbbD {t:ByteArray} (h:t.size=0):t=ByteArray.mk #[]:=zJy (by
 have:t.data.toList.length=0:=by rw [q1h]; exact h
 rw [q29.1 this])
theorem zbeb {x y:Value} (hx:zrF x=true) (hy:zrF y=true) (rx:rng x.Int) (ry:rng y.Int) {u v:List UInt8} (hu:hd [58,93] u) (hv:hd [58,93] v) (h:txV x++u=txV y++v):x=y/\u=v:=by
 have d1:∀ c∈([58,93]:List UInt8),zsz c=false:=by decide
 obtain ⟨cx,sx,ex,dx⟩:=z9O rx.1 rx.2;obtain ⟨cy,sy,ey,dy⟩:=z9O ry.1 ry.2
 have nd:∀ c:UInt8,c=45\/zsz c=true->c≠39/\c≠84/\c≠70:=λc hc=>by
  refine ⟨?_, ?_, ?_⟩ <;>(intro e; subst e; revert hc; decide)
 obtain ⟨kx,ix,tx⟩:=x;obtain ⟨ky,iy,ty⟩:=y;simp only [zrF,q1w,qa,beq_iff_eq,qb] at hx hy;simp only at rx ry ex ey;rcases hx with (⟨rfl,hx⟩ | ⟨⟨rfl,rfl⟩,hx⟩) | ⟨⟨rfl,hx⟩,hx2⟩
 ·have:=zbbD hx; subst this;rcases hy with (⟨rfl,hy⟩ | ⟨⟨rfl,rfl⟩,hy⟩) | ⟨⟨rfl,hy⟩,hy2⟩
  ·have:=zbbD hy; subst this;simp only [txV,if_true] at h;obtain ⟨h1,h2⟩:=zwy rx ry (hu.noDig d1) (hv.noDig d1) h;exact ⟨by rw [h1],h2⟩
  ·simp only [txV,if_true,show ¬ (1:Int)=0 by decide,if_false,ex,qo,qp] at h
   exact absurd h.1 (nd cx dx).1
  ·rcases hy2 with rfl | rfl
   ·simp only [txV,if_true,show ¬ (2:Int)=0 by decide,show ¬ (2:Int)=1 by decide,show ¬ (0:Int)=1 by decide,if_false,ex,qo,qp] at h
    exact absurd h.1 (nd cx dx).2.2
   ·simp only [txV,if_true,show ¬ (2:Int)=0 by decide,show ¬ (2:Int)=1 by decide,if_false,ex,qo,qp] at h
    exact absurd h.1 (nd cx dx).2.1
 ·rcases hy with (⟨rfl,hy⟩ | ⟨⟨rfl,rfl⟩,hy⟩) | ⟨⟨rfl,hy⟩,hy2⟩
  ·simp only [txV,if_true,show ¬ (1:Int)=0 by decide,if_false,ey,qo,qp] at h
   exact absurd h.1.symm (nd cy dy).1
  ·simp only [txV,if_true,show ¬ (1:Int)=0 by decide,if_false,qo,qp,true_and,qu,q10] at h
   obtain ⟨h1,h2⟩:=z3b _ _ u v (hu.ne (by decide)) (hv.ne (by decide)) h
   exact ⟨by rw [zJy h1],h2⟩
  ·rcases hy2 with rfl | rfl <;>simp [txV] at h
 ·have:=zbbD hx; subst this;rcases hy with (⟨rfl,hy⟩ | ⟨⟨rfl,rfl⟩,hy⟩) | ⟨⟨rfl,hy⟩,hy2⟩
  ·rcases hx2 with rfl | rfl
   ·simp only [txV,if_true,show ¬ (2:Int)=0 by decide,show ¬ (2:Int)=1 by decide,show ¬ (0:Int)=1 by decide,if_false,ey,qo,qp] at h
    exact absurd h.1.symm (nd cy dy).2.2
   ·simp only [txV,if_true,show ¬ (2:Int)=0 by decide,show ¬ (2:Int)=1 by decide,if_false,ey,qo,qp] at h
    exact absurd h.1.symm (nd cy dy).2.1
  ·rcases hx2 with rfl | rfl <;>simp [txV] at h
  ·have:=zbbD hy; subst this;rcases hx2 with rfl | rfl <;>rcases hy2 with rfl | rfl <;>simp [txV] at h
   ·exact ⟨rfl,h⟩
   ·exact ⟨rfl,h⟩
theorem zbju {f g:Int} (hf:0<=f/\f<=3) (hg:0<=g/\g<=3) {u v:List UInt8} (h:fnT f++123::u=fnT g++123::v):f=g/\u=v:=by
 have c1:f=0\/f=1\/f=2\/f=3:=by omega
 have c2:g=0\/g=1\/g=2\/g=3:=by omega
 rcases c1 with rfl | rfl | rfl | rfl <;>rcases c2 with rfl | rfl | rfl | rfl <;>simp [fnT] at h <;>exact ⟨rfl,h⟩
theorem zbi2 {f g:Int} (hf:5<=f/\f<=10) (hg:5<=g/\g<=10) {u v:List UInt8} (h:opT f++32::u=opT g++32::v):f=g/\u=v:=by
 have c1:f=5\/f=6\/f=7\/f=8\/f=9\/f=10:=by omega
 have c2:g=5\/g=6\/g=7\/g=8\/g=9\/g=10:=by omega
 rcases c1 with rfl | rfl | rfl | rfl | rfl | rfl <;>rcases c2 with rfl | rfl | rfl | rfl | rfl | rfl <;>simp [opT] at h <;>exact ⟨rfl,h⟩
def SN:List UInt8:=[93,44,59,125]
def ST:List UInt8:=32::SN
def SF:List UInt8:=42::ST
def SA:List UInt8:=94::SF
theorem z4R:∀ c∈SA,zsz c=false:=by decide
theorem zbnA:∀ c∈ST,c∈SA:=by decide
theorem z6v:∀ c∈SF,c∈SA:=by decide
def RdN (V:yB->Bool):Prop:=∀ a b,V a=true->V b=true->zgz a->zgz b->∀ u v,hd SN u->hd SN v->txN a++u=txN b++v->a=b/\u=v
def RdA (V:yB->Bool):Prop:=∀ x y,zdj V x=true->zdj V y=true->zgn x->zgn y->∀ u v,hd SA u->hd SA v->txA x++u=txA y++v->x=y/\u=v
theorem zbjq {V:yB->Bool} {x:At} (h:zdj V x=true):∃ c r,txA x=c::r/\zsz c=false:=by
 cases zcZ.1 h with
 | var r h=>rw [txA]; exact ⟨116,_,rfl,rfl⟩
 | mon a b _ _ _ _ _=>rw [txA]; exact ⟨109,_,rfl,rfl⟩
 | del a _ _ _ _=>rw [txA]; exact ⟨100,_,rfl,rfl⟩
 | abs a _ _ _=>rw [txA]; exact ⟨97,_,rfl,rfl⟩
 | tst f l o b _ _ _ _=>rw [txA]; exact ⟨116,_,rfl,rfl⟩
theorem zbhz {V:yB->Bool} (hV:RdN V):RdA V:=by
 intro x y hx hy wx wy u v hu hv h;have Wx:=zng wx;have Wy:=zng wy;have k0:¬ (1:Int)=0:=by decide
 have c44:∀ z,hd SN (44::z):=λz=>zqQ (by decide)
 have c93:∀ z,hd SN (93::z):=λz=>zqQ (by decide)
 have tE:∀ (r:RowID),zw2 r=true->rng r.Table->∀ w z,ziZ r.Table++w≠101::z:=λr hr hg w z e=>by
  simp only [zw2,qa,qb] at hr;obtain ⟨d1,d2⟩:=zbhA (show 0<=r.Table by omega) hg.2
  cases hl:ziZ r.Table with
  | nil=>exact d2 hl
  | cons c s=>
   rw [hl] at e d1;simp only [qo,qp] at e;rw [q28,e.1] at d1;revert d1; simp [zsz]
 cases zcZ.1 hx with
 | var r hr=>
  have rr:=Wx.2.2.2.2.1;simp only at rr;cases zcZ.1 hy with
  | var r' hr'=>
   have rr':=Wy.2.2.2.2.1;simp only at rr';rw [txA,txA] at h;simp only [zdA,if_true,txR,qo,qp,true_and,qu] at h;obtain ⟨h1,h2⟩:=zwy (zmZ rr.1) (zmZ rr'.1) (λc hc=>by simp only [List.head?_cons,q0] at hc; subst hc; rfl) (λc hc=>by simp only [List.head?_cons,q0] at hc; subst hc; rfl) h
   simp only [qp,true_and] at h2;obtain ⟨h3,h4⟩:=zwy (zmZ rr.2) (zmZ rr'.2) (hu.noDig z4R) (hv.noDig z4R) h2;obtain ⟨t,s⟩:=r; obtain ⟨t',s'⟩:=r';simp only at h1 h3;exact ⟨by rw [h1,h3],h4⟩
  | tst f l o b _ _ _ _=>
   rw [txA,txA] at h;simp only [zdA,if_true,txR,show ¬ (4:Int)=0 by decide,show ¬ (4:Int)=1 by decide,show ¬ (4:Int)=2 by decide,show ¬ (4:Int)=3 by decide,if_false,qo,qp,true_and,qu] at h
   exact absurd h (tE r hr (zmZ rr.1) _ _)
  | mon a b _ _ _ _ _=>rw [txA,txA] at h; simp [zdA,txR] at h
  | del a _ _ _ _=>rw [txA,txA] at h; simp [zdA,txR] at h
  | abs a _ _ _=>rw [txA,txA] at h; simp [zdA,txR] at h
 | mon a b ha hb _ _ _=>
  cases zcZ.1 hy with
  | mon a' b' ha' hb' _ _ _=>
   rw [txA,txA,zmT,zmT] at h;simp only [zdA,if_true,k0,if_false,List.map,q27,List.getD_cons_succ,qo,qp,true_and,qu,q10] at h;have wa:=λz hz=>(zhD Wx.1.1 z hz).1
   have wb:=λz hz=>(zhD Wy.1.1 z hz).1
   obtain ⟨h1,h2⟩:=hV a a' ha ha' (wa a (by simp)) (wb a' (by simp)) _ _ (c44 _) (c44 _) h
   simp only [qp,true_and] at h2;obtain ⟨h3,h4⟩:=hV b b' hb hb' (wa b (by simp)) (wb b' (by simp)) _ _ (c93 _) (c93 _) h2
   simp only [qp,true_and] at h4;exact ⟨by rw [h1,h3],h4⟩
  | var r h=>rw [txA,txA] at h; simp [zdA,txR] at h
  | del a _ _ _ _=>rw [txA,txA] at h; simp [zdA,txR] at h
  | abs a _ _ _=>rw [txA,txA] at h; simp [zdA,txR] at h
  | tst f l o b _ _ _ _=>rw [txA,txA] at h; simp [zdA,txR] at h
 | del a ha _ _ _=>
  cases zcZ.1 hy with
  | del a' ha' _ _ _=>
   rw [txA,txA,zmT,zmT] at h;simp only [zdA,if_true,show ¬ (2:Int)=0 by decide,show ¬ (2:Int)=1 by decide,if_false,List.map,q27,qo,qp,true_and,qu,q10] at h
   have wa:=λz hz=>(zhD Wx.1.1 z hz).1
   have wb:=λz hz=>(zhD Wy.1.1 z hz).1
   obtain ⟨h1,h2⟩:=hV a a' ha ha' (wa a (by simp)) (wb a' (by simp)) _ _ (c93 _) (c93 _) h
   simp only [qp,true_and] at h2;exact ⟨by rw [h1],h2⟩
  | var r h=>rw [txA,txA] at h; simp [zdA,txR] at h
  | mon a b _ _ _ _ _=>rw [txA,txA] at h; simp [zdA,txR] at h
  | abs a _ _ _=>rw [txA,txA] at h; simp [zdA,txR] at h
  | tst f l o b _ _ _ _=>rw [txA,txA] at h; simp [zdA,txR] at h
 | abs a ha _ _=>
  cases zcZ.1 hy with
  | abs a' ha' _ _=>
   rw [txA,txA,zmT,zmT] at h;simp only [zdA,if_true,show ¬ (3:Int)=0 by decide,show ¬ (3:Int)=1 by decide,show ¬ (3:Int)=2 by decide,if_false,List.map,q27,qo,qp,true_and,qu,q10] at h
   have wa:=λz hz=>(zhD Wx.1.1 z hz).1
   have wb:=λz hz=>(zhD Wy.1.1 z hz).1
   obtain ⟨h1,h2⟩:=hV a a' ha ha' (wa a (by simp)) (wb a' (by simp)) _ _ (c93 _) (c93 _) h
   simp only [qp,true_and] at h2;exact ⟨by rw [h1],h2⟩
  | var r h=>rw [txA,txA] at h; simp [zdA,txR] at h
  | mon a b _ _ _ _ _=>rw [txA,txA] at h; simp [zdA,txR] at h
  | del a _ _ _ _=>rw [txA,txA] at h; simp [zdA,txR] at h
  | tst f l o b _ _ _ _=>rw [txA,txA] at h; simp [zdA,txR] at h
 | tst f l o b hl hi hs hf=>
  cases zcZ.1 hy with
  | tst f' l' o' b' hl' hi' hs' hf'=>
   obtain ⟨⟨f0,f3,o5,o10⟩,hb,hit⟩:=ztR hf;obtain ⟨⟨f0',f3',o5',o10'⟩,hb',hit'⟩:=ztR hf';have wl:=zga Wx.2.1.1;have wl':=zga Wy.2.1.1;rw [txA,txA,zMa,zMa] at h;simp only [zdA,show ¬ (4:Int)=0 by decide,show ¬ (4:Int)=1 by decide,show ¬ (4:Int)=2 by decide,show ¬ (4:Int)=3 by decide,if_false,qo,qp,true_and,qu,q10] at h
   obtain ⟨h1,h2⟩:=zbju ⟨f0,f3⟩ ⟨f0',f3'⟩ h
   obtain ⟨h3,h4⟩:=zPN txI [125] 59 [32] (λw=>(V w.Ann=true/\zgz w.Ann)/\zrF w.Value=true/\rng w.Value.Int) (by decide) (λx y px py u v hu hv e=>by
    simp only [txI,qu,qo,q10] at e;obtain ⟨e1,e2⟩:=zbeb px.2.1 py.2.1 px.2.2 py.2.2 (zqQ (by decide)) (zqQ (by decide)) e
    simp only [qp,true_and] at e2;obtain ⟨e3,e4⟩:=hV _ _ px.1.1 py.1.1 px.1.2 py.1.2 u v (hu.mono (by decide)) (hv.mono (by decide)) e2
    obtain ⟨vx,ax⟩:=x; obtain ⟨vy,ay⟩:=y;simp only at e1 e3;exact ⟨by rw [e1,e3],e4⟩) l l' hl hl' (λw hw=>⟨⟨(hi w hw).1,(wl w hw).2.1⟩,(hit w hw).1,zmZ (wl w hw).1.2.1⟩) (λw hw=>⟨⟨(hi' w hw).1,(wl' w hw).2.1⟩,(hit' w hw).1,zmZ (wl' w hw).1.2.1⟩) _ _ (zqQ (by decide)) (zqQ (by decide)) h2
   simp only [qp,true_and] at h4;obtain ⟨h5,h6⟩:=zbi2 ⟨o5,o10⟩ ⟨o5',o10'⟩ h4;obtain ⟨h7,h8⟩:=zbeb hb hb' (zmZ Wx.2.2.1.2.1) (zmZ Wy.2.2.1.2.1) (zqQ (by decide)) (zqQ (by decide)) h6
   simp only [qp,true_and] at h8;exact ⟨by rw [h1,h3,h5,h7],h8⟩
  | var r hr=>
   have rr:=Wy.2.2.2.2.1;simp only at rr;rw [txA,txA] at h;simp only [zdA,if_true,txR,show ¬ (4:Int)=0 by decide,show ¬ (4:Int)=1 by decide,show ¬ (4:Int)=2 by decide,show ¬ (4:Int)=3 by decide,if_false,qo,qp,true_and,qu] at h
   exact absurd h.symm (tE r hr (zmZ rr.1) _ _)
  | mon a b _ _ _ _ _=>rw [txA,txA] at h; simp [zdA,txR] at h
  | del a _ _ _ _=>rw [txA,txA] at h; simp [zdA,txR] at h
  | abs a _ _ _=>rw [txA,txA] at h; simp [zdA,txR] at h
def gF (V:yB->Bool) (f:Fc):Prop:=zdj V f.At=true/\zgn f.At/\rng f.Exp
theorem zbl6 {V:yB->Bool} (hA:RdA V) {f g:Fc} (hf:gF V f) (hg:gF V g) {u v:List UInt8} (hu:hd SF u) (hv:hd SF v) (h:txF f++u=txF g++v):f=g/\u=v:=by
 obtain ⟨x,e⟩:=f; obtain ⟨y,e'⟩:=g;obtain ⟨a1,a2,a3⟩:=hf; obtain ⟨b1,b2,b3⟩:=hg;simp only at a1 a2 a3 b1 b2 b3;have c94:∀ z,hd SA (94::z):=λz=>zqQ (by decide)
 have n94:(94:UInt8)∉SF:=by decide
 have dg:∀ c∈SF,zsz c=false:=λc hc=>z4R c (z6v c hc)
 unfold txF zO9 at h;simp only at h;by_cases h1:e=1
 ·by_cases h2:e'=1
  ·rw [if_pos h1,if_pos h2] at h;obtain ⟨q1,q2⟩:=hA x y a1 b1 a2 b2 u v (hu.mono z6v) (hv.mono z6v) h;exact ⟨by rw [q1,h1,h2],q2⟩
  ·rw [if_pos h1,if_neg h2,qu] at h;obtain ⟨q1,q2⟩:=hA x y a1 b1 a2 b2 u _ (hu.mono z6v) (c94 _) h;rw [q2] at hu;exact (hu.cons_ne n94).elim
 ·by_cases h2:e'=1
  ·rw [if_neg h1,if_pos h2,qu] at h;obtain ⟨q1,q2⟩:=hA x y a1 b1 a2 b2 _ v (c94 _) (hv.mono z6v) h;rw [<- q2] at hv;exact (hv.cons_ne n94).elim
  ·rw [if_neg h1,if_neg h2,qu,qu] at h;obtain ⟨q1,q2⟩:=hA x y a1 b1 a2 b2 _ _ (c94 _) (c94 _) h;simp only [qo,qp,true_and] at q2;obtain ⟨q3,q4⟩:=zwy a3 b3 (hu.noDig dg) (hv.noDig dg) q2;exact ⟨by rw [q1,q3],q4⟩
theorem z7G {V:yB->Bool} (hA:RdA V) {l l':yC} (hl:l≠[]) (hl':l'≠[]) (h1:∀ f∈l,gF V f) (h2:∀ f∈l',gF V f) {u v:List UInt8} (hu:hd ST u) (hv:hd ST v) (h:txL l++u=txL l'++v):l=l'/\u=v:=by
 unfold txL at h;rw [zzT,zzT] at h;exact zPN txF ST 42 [] (gF V) (by decide) (λx y px py u v hu hv e=>zbl6 hA px py hu hv e) l l' hl hl' h1 h2 u v hu hv h
theorem zHy {V:yB->Bool} {l:yC} (hl:l≠[]) (h:∀ f∈l,gF V f):∃ c r,txL l=c::r/\zsz c=false:=by
 cases l with
 | nil=>exact absurd rfl hl
 | cons f r=>
  obtain ⟨c,s,e,hc⟩:=zbjq (h f (by simp)).1
  have:∃ s',txF f=c::s':=by
   unfold txF zO9;split
   ·exact ⟨s,e⟩
   ·exact ⟨_,by rw [e]; rfl⟩
  obtain ⟨s',e'⟩:=this;unfold txL;rw [zzT];cases r with
  | nil=>exact ⟨c,s',by simp only [List.map,zeX]; exact e',hc⟩
  | cons g r=>exact ⟨c,_,by simp only [List.map,zeX]; rw [e']; rfl,hc⟩
def gT (V:yB->Bool) (t:Term):Prop:=(1<=t.Cf/\t.Cf<=9223372036854775807)/\∀ f∈t.Fs,gF V f
theorem z7l {n:Int} (h:1<=n) (h2:n<=9223372036854775807):∃ c r,ziZ n=c::r/\zsz c=true/\c≠48:=by
 have e:ziZ n=Lib.decDigits n.toNat:=by rw [z4z (by omega) h2,Lib.itoa,if_neg (by omega)]
 obtain ⟨a1,a2,a3,a4⟩:=z0p n.toNat n.toNat (qn _);rw [e];cases hl:Lib.decDigits n.toNat with
 | nil=>exact absurd hl a3
 | cons c r=>
  rw [hl] at a1 a4;rw [q28,qa] at a1;exact ⟨c,r,rfl,a1.1,λe=>a4 (by omega) (by rw [e]; rfl)⟩
theorem zbdP {l:yC}:zMn l=[]↔l=[]:=by rw [zzT,List.map_eq_nil_iff]
theorem zbca (t:Term):txT t=if t.Fs=[] then ziZ t.Cf else if t.Cf=1 then txL t.Fs else ziZ t.Cf++42::txL t.Fs:=by
 unfold txT zZH;by_cases h:t.Fs=[]
 ·rw [if_pos (zbdP.2 h),if_pos h]
 ·rw [if_neg (λe=>h (zbdP.1 e)),if_neg h]; rfl
theorem zbna {V:yB->Bool} (hA:RdA V) {s t:Term} (hs:gT V s) (ht:gT V t) {u v:List UInt8} (hu:hd ST u) (hv:hd ST v) (h:txT s++u=txT t++v):s=t/\u=v:=by
 obtain ⟨c,l⟩:=s; obtain ⟨c',l'⟩:=t;obtain ⟨⟨c1,c2⟩,h1⟩:=hs; obtain ⟨⟨c1',c2'⟩,h2⟩:=ht;simp only at c1 c2 h1 c1' c2' h2;have dg:∀ c∈ST,zsz c=false:=λc hc=>z4R c (zbnA c hc)
 have n42:(42:UInt8)∉ST:=by decide
 have d42:∀ z,noDig (42::z):=λz c hc=>by simp only [List.head?_cons,q0] at hc; subst hc; rfl
 have rc:rng c:=⟨by omega,c2⟩
 have rc':rng c':=⟨by omega,c2'⟩
 obtain ⟨d,r,e,hd,_⟩:=z7l c1 c2;obtain ⟨d',r',e',hd',_⟩:=z7l c1' c2';rw [zbca,zbca] at h;simp only at h;by_cases l0:l=[]
 ·rw [if_pos l0] at h;by_cases l0':l'=[]
  ·rw [if_pos l0'] at h;obtain ⟨q1,q2⟩:=zwy rc rc' (hu.noDig dg) (hv.noDig dg) h;exact ⟨by rw [q1,l0,l0'],q2⟩
  ·rw [if_neg l0'] at h;by_cases k':c'=1
   ·rw [if_pos k'] at h;obtain ⟨d2,r2,e2,hd2⟩:=zHy l0' h2;rw [e,e2] at h;simp only [qo,qp] at h;rw [h.1,hd2] at hd; cases hd
   ·rw [if_neg k',qu] at h;obtain ⟨q1,q2⟩:=zwy rc rc' (hu.noDig dg) (d42 _) h;rw [q2] at hu;exact (hu.cons_ne n42).elim
 ·rw [if_neg l0] at h;by_cases k:c=1
  ·rw [if_pos k] at h;obtain ⟨d2,r2,e2,hd2⟩:=zHy l0 h1;by_cases l0':l'=[]
   ·rw [if_pos l0',e2,e'] at h;simp only [qo,qp] at h;rw [<- h.1,hd2] at hd'; cases hd'
   ·rw [if_neg l0'] at h;by_cases k':c'=1
    ·rw [if_pos k'] at h;obtain ⟨q1,q2⟩:=z7G hA l0 l0' h1 h2 hu hv h;exact ⟨by rw [q1,k,k'],q2⟩
    ·rw [if_neg k',e2,e'] at h;simp only [qo,qp] at h;rw [<- h.1,hd2] at hd'; cases hd'
  ·rw [if_neg k,qu] at h;by_cases l0':l'=[]
   ·rw [if_pos l0'] at h;obtain ⟨q1,q2⟩:=zwy rc rc' (d42 _) (hv.noDig dg) h;rw [<- q2] at hv;exact (hv.cons_ne n42).elim
   ·rw [if_neg l0'] at h;by_cases k':c'=1
    ·rw [if_pos k'] at h;obtain ⟨d2,r2,e2,hd2⟩:=zHy l0' h2;rw [e,e2] at h;simp only [qo,qp] at h;rw [h.1,hd2] at hd; cases hd
    ·rw [if_neg k',qu] at h;obtain ⟨q1,q2⟩:=zwy rc rc' (d42 _) (d42 _) h;simp only [qo,qp,true_and] at q2;obtain ⟨q3,q4⟩:=z7G hA l0 l0' h1 h2 hu hv q2;exact ⟨by rw [q1,q3],q4⟩
theorem zbjy {V:yB->Bool} {t:Term} (ht:gT V t):∃ c r,txT t=c::r/\c≠48:=by
 obtain ⟨⟨c1,c2⟩,h1⟩:=ht;obtain ⟨d,r,e,hd,h48⟩:=z7l c1 c2;rw [zbca];by_cases l0:t.Fs=[]
 ·rw [if_pos l0]; exact ⟨d,r,e,h48⟩
 ·rw [if_neg l0];split
  ·obtain ⟨d2,r2,e2,hd2⟩:=zHy l0 h1;exact ⟨d2,r2,e2,λe=>by rw [e] at hd2; revert hd2; decide⟩
  ·exact ⟨d,_,by rw [e]; rfl,h48⟩
theorem zbmI {V:yB->Bool} (hA:RdA V) {a b:yB} (ha:∀ t∈a,gT V t) (hb:∀ t∈b,gT V t) {u v:List UInt8} (hu:hd SN u) (hv:hd SN v) (h:txN a++u=txN b++v):a=b/\u=v:=by
 have en:∀ z:yB,z≠[]->txN z=zeX (z.map txT) [32,43,32]:=λz hz=>by
  unfold txN zUR; rw [zVc,if_neg (by simpa using hz)]
 have e0:txN []=[48]:=by unfold txN zUR; rw [zTs,if_pos rfl]
 have h48:∀ z:yB,z≠[]->(∀ t∈z,gT V t)->∃ c r,txN z=c::r/\c≠48:=λz hz hg=>by
  rw [en z hz];cases z with
  | nil=>exact absurd rfl hz
  | cons t r=>
   obtain ⟨c,s,e,hc⟩:=zbjy (hg t (by simp))
   cases r with
   | nil=>exact ⟨c,s,by simp only [List.map,zeX]; exact e,hc⟩
   | cons t' r=>exact ⟨c,_,by simp only [List.map,zeX]; rw [e]; rfl,hc⟩
 by_cases a0:a=[]
 ·by_cases b0:b=[]
  ·rw [a0,b0] at h;exact ⟨by rw [a0,b0],List.append_cancel_left h⟩
  ·obtain ⟨c,r,e,hc⟩:=h48 b b0 hb;rw [a0,e0,e] at h;simp only [qo,qp] at h;exact absurd h.1.symm hc
 ·by_cases b0:b=[]
  ·obtain ⟨c,r,e,hc⟩:=h48 a a0 ha;rw [b0,e0,e] at h;simp only [qo,qp] at h;exact absurd h.1 hc
  ·rw [en a a0,en b b0] at h;exact zPN txT SN 32 [43,32] (gT V) (by decide) (λx y px py u v hu hv e=>zbna hA px py hu hv e) a b a0 b0 ha hb u v hu hv h
theorem zbiF:∀ m,RdN (zbi m)/\RdA (zbi m):=by
 intro m;induction m with
 | zero=>
  have:RdN (zbi 0):=λa b ha=>by cases ha
  exact ⟨this,zbhz this⟩
 | succ m ih=>
  have:RdN (zbi (m+1)):=λa b ha hb wa wb u v hu hv h=>by
   have key:∀ z,zbi (m+1) z=true->zgz z->∀ t∈z,gT (zbi m) t:=λz hz wz t ht=>by
    obtain ⟨⟨c1,c2⟩,hok⟩:=zwm hz ht;have hwt:=zlT (ztI (zqG wz t ht)).2.1;exact ⟨⟨c1,by omega⟩,λf hf=>⟨(zqo hok hf).2,(znH (hwt f hf)).1,zmZ (znH (hwt f hf)).2⟩⟩
   exact zbmI ih.2 (key a ha wa) (key b hb wb) hu hv h
  exact ⟨this,zbhz this⟩
theorem zblm {m:Nat} {l l':yC} (h1:∀ f∈l,gF (zbi m) f) (h2:∀ f∈l',gF (zbi m) f) (h:txL l=txL l'):l=l':=by
 have e0:txL []=[]:=by unfold txL; rw [zMn]; rfl
 by_cases l0:l=[]
 ·by_cases l0':l'=[]
  ·rw [l0,l0']
  ·obtain ⟨c,r,e,_⟩:=zHy l0' h2;rw [l0,e0,e] at h; cases h
 ·by_cases l0':l'=[]
  ·obtain ⟨c,r,e,_⟩:=zHy l0 h1;rw [l0',e0,e] at h; cases h
  ·exact (z7G (zbiF m).2 l0 l0' h1 h2 (u:=[]) (v:=[]) (λc hc=>by cases hc) (λc hc=>by cases hc) (by rw [h])).1
def ztv (a b:Int):Int:=if 1152921504606846976<a+b then 1152921504606846976 else a+b
def cT (x y:Term):Int:=zbx (zbD x.Fs) (zbD y.Fs)
theorem zRr {x y:Term} (h:cT x y=0):x.Fs=y.Fs:=zCz _ _ (zLZ _ _ h)
theorem zAp {x y:Term} (h:x.Fs=y.Fs):cT x y=0:=by unfold cT; rw [h]; exact zZP _
def zhr (t:Term):yB->yB
 | []=>[t]
 | x::r=>if cT x t<0 then x::zhr t r else if cT x t=0 then ⟨ztv x.Cf t.Cf,t.Fs⟩::r else t::x::r
def znN (t:Term):yB->yB
 | []=>[t]
 | x::r=>if x.Fs=t.Fs then ⟨ztv x.Cf t.Cf,x.Fs⟩::r else x::znN t r
abbrev Srs (l:yB):Prop:=l.Pairwise λx y=>cT x y<0
abbrev Dst (l:yB):Prop:=l.Pairwise λx y=>x.Fs≠y.Fs
theorem Srs.dst {l:yB} (h:Srs l):Dst l:=h.imp λ{x y} hxy e=>by rw [zAp e] at hxy; omega
def SM (l:yB) (t y:Term):Prop:=(y∈l/\y.Fs≠t.Fs)\/(y.Fs=t.Fs/\((∃ x∈l,x.Fs=t.Fs/\y.Cf=ztv x.Cf t.Cf)\/((∀ x∈l,x.Fs≠t.Fs)/\y.Cf=t.Cf)))
theorem z7i {x y:Term} (h1:x.Cf=y.Cf) (h2:x.Fs=y.Fs):x=y:=by cases x; cases y; simp_all
theorem zNo {x y z:Term} (h1:cT x y<0) (h2:cT y z<0):cT x z<0:=zbag h1 h2
theorem zDO (x y:Term):cT y x= - cT x y:=zH5 _ _
theorem z6K {x t y:Term} {r:yB} (hx:x.Fs≠t.Fs) (hr:∀ z∈r,x.Fs≠z.Fs):SM (x::r) t y↔y=x\/SM r t y:=by
 unfold SM;constructor
 ·rintro (⟨h1,h2⟩ | ⟨h1,⟨z,hz,h2,h3⟩ | ⟨h2,h3⟩⟩)
  ·rcases q8.1 h1 with rfl | h1
   ·exact .inl rfl
   ·exact .inr (.inl ⟨h1,h2⟩)
  ·rcases q8.1 hz with rfl | hz
   ·exact absurd h2 hx
   ·exact .inr (.inr ⟨h1,.inl ⟨z,hz,h2,h3⟩⟩)
  ·exact .inr (.inr ⟨h1,.inr ⟨λz hz=>h2 z (by simp [hz]),h3⟩⟩)
 ·rintro (rfl | ⟨h1,h2⟩ | ⟨h1,⟨z,hz,h2,h3⟩ | ⟨h2,h3⟩⟩)
  ·exact .inl ⟨by simp,hx⟩
  ·exact .inl ⟨by simp [h1],h2⟩
  ·exact .inr ⟨h1,.inl ⟨z,by simp [hz],h2,h3⟩⟩
  ·exact .inr ⟨h1,.inr ⟨λz hz=>by
    rcases q8.1 hz with rfl | hz
    ·exact hx
    ·exact h2 z hz,h3⟩⟩
theorem z8a {t y:Term} {l:yB} (h:∀ z∈l,z.Fs≠t.Fs):SM l t y↔y=t\/y∈l:=by
 unfold SM;constructor
 ·rintro (⟨h1,h2⟩ | ⟨h1,⟨z,hz,h2,h3⟩ | ⟨h2,h3⟩⟩)
  ·exact .inr h1
  ·exact absurd h2 (h z hz)
  ·exact .inl (z7i h3 h1)
 ·rintro (rfl | h1)
  ·exact .inr ⟨rfl,.inr ⟨h,rfl⟩⟩
  ·exact .inl ⟨h1,h y h1⟩
theorem zbhg {x t y:Term} {r:yB} (hx:x.Fs=t.Fs) (hr:∀ z∈r,z.Fs≠t.Fs):SM (x::r) t y↔y=⟨ztv x.Cf t.Cf,t.Fs⟩\/y∈r:=by
 unfold SM;constructor
 ·rintro (⟨h1,h2⟩ | ⟨h1,⟨z,hz,h2,h3⟩ | ⟨h2,h3⟩⟩)
  ·rcases q8.1 h1 with rfl | h1
   ·exact absurd hx h2
   ·exact .inr h1
  ·rcases q8.1 hz with rfl | hz
   ·exact .inl (z7i h3 h1)
   ·exact absurd h2 (hr z hz)
  ·exact absurd hx (h2 x (by simp))
 ·rintro (rfl | h1)
  ·exact .inr ⟨rfl,.inl ⟨x,by simp,hx,rfl⟩⟩
  ·exact .inl ⟨by simp [h1],hr y h1⟩
theorem zAU {t y:Term}:∀ {l:yB},Srs l->(y∈zhr t l↔SM l t y)
 | [],_=>by rw [z8a (by simp)]; simp [zhr]
 | x::r,h=>by
  have hc:=qh.1 h;have hd:=qh.1 h.dst;unfold zhr;by_cases h1:cT x t<0
  ·rw [if_pos h1,q8,z6K (λe=>by rw [zAp e] at h1; omega) hd.1,zAU hc.2]
  ·rw [if_neg h1];by_cases h2:cT x t=0
   ·rw [if_pos h2,q8,zbhg (zRr h2) λz hz e=>by
     have:=hc.1 z hz; rw [zAp ((zRr h2).trans e.symm)] at this; omega]
   ·rw [if_neg h2,z8a λz hz e=>by
     have a:=zDO x t;rcases q8.1 hz with rfl | hz
     ·exact h2 (zAp e)
     ·have b:=zNo (show cT t x<0 by omega) (hc.1 z hz)
      rw [zAp e.symm] at b; omega]
    rw [q8]
theorem z7j {t y:Term}:∀ {l:yB},Dst l->(y∈znN t l↔SM l t y)
 | [],_=>by rw [z8a (by simp)]; simp [znN]
 | x::r,h=>by
  have hd:=qh.1 h;unfold znN;by_cases h2:x.Fs=t.Fs
  ·rw [if_pos h2,q8,zbhg h2 λz hz e=>hd.1 z hz (h2.trans e.symm),h2]
  ·rw [if_neg h2,q8,z6K h2 hd.1,z7j hd.2]
theorem zAK {t:Term}:∀ {l:yB},Srs l->Srs (zhr t l)
 | [],_=>by simp [zhr]
 | x::r,h=>by
  have hc:=qh.1 h;unfold zhr;by_cases h1:cT x t<0
  ·rw [if_pos h1];refine qh.2 ⟨λz hz=> ?_,zAK hc.2⟩
   rcases (zAU hc.2).1 hz with ⟨h2,_⟩ | ⟨h2,_⟩
   ·exact hc.1 z h2
   ·have:cT x z=cT x t:=by unfold cT; rw [h2]
    rw [this]; exact h1
  ·rw [if_neg h1];by_cases h2:cT x t=0
   ·rw [if_pos h2];refine qh.2 ⟨λz hz=> ?_,hc.2⟩
    have:=hc.1 z hz;unfold cT at this ⊢;rw [<- zRr h2]; exact this
   ·rw [if_neg h2];have a:=zDO x t;refine qh.2 ⟨λz hz=> ?_,h⟩
    rcases q8.1 hz with rfl | hz
    ·omega
    ·exact zNo (show cT t x<0 by omega) (hc.1 z hz)
theorem z8B {t:Term}:∀ {l:yB},Dst l->Dst (znN t l)
 | [],_=>by simp [znN]
 | x::r,h=>by
  have hc:=qh.1 h;unfold znN;by_cases h2:x.Fs=t.Fs
  ·rw [if_pos h2];exact qh.2 ⟨λz hz=>hc.1 z hz,hc.2⟩
  ·rw [if_neg h2];refine qh.2 ⟨λz hz=> ?_,z8B hc.2⟩
   rcases (z7j hc.2).1 hz with ⟨h3,_⟩ | ⟨h3,_⟩
   ·exact hc.1 z h3
   ·rw [h3]; exact h2
theorem Dst.nodup {l:yB} (h:Dst l):l.Nodup:=h.imp λ{x y} hxy e=>hxy (by rw [e])
theorem zbk6 {l l':yB} (h:l.Perm l') (t y:Term):SM l t y↔SM l' t y:=by
 unfold SM;simp only [h.mem_iff]
theorem zbh8 {l l':yB} (t:Term) (h:l.Perm l') (hs:Srs l) (hd:Dst l'):(zhr t l).Perm (znN t l'):=
 (List.perm_ext_iff_of_nodup (zAK hs).dst.nodup (z8B hd).nodup).2 λy=>by rw [zAU hs,z7j hd,zbk6 h]
def zcT (a b:yB):yB:=b.foldl (λa t=>zhr t a) a
def zPK (ts:yB):yB:=ts.foldl (λa t=>znN t a) []
theorem zL5:∀ (b a:yB),Srs a->Srs (zcT a b)
 | [],_,h=>h
 | t::r,a,h=>zL5 r (zhr t a) (zAK h)
theorem z9W:∀ (ts l l':yB),l.Perm l'->Srs l->Dst l'->(zcT l ts).Perm (ts.foldl (λa t=>znN t a) l')/\Dst (ts.foldl (λa t=>znN t a) l')
 | [],l,l',h,_,hd=>⟨h,hd⟩
 | t::r,l,l',h,hs,hd=>z9W r (zhr t l) (znN t l') (zbh8 t h hs hd) (zAK hs) (z8B hd)
theorem zbb4 {t:Term}:∀ {l:yB},(∀ x∈l,cT x t<0)->zhr t l=l++[t]
 | [],_=>rfl
 | x::r,h=>by
  unfold zhr;rw [if_pos (h x (by simp)),zbb4 λy hy=>h y (by simp [hy])]; rfl
theorem z7N:∀ (r l:yB),Srs (l++r)->zcT l r=l++r
 | [],l,_=>by simp [zcT]
 | t::r,l,h=>by
  have e:zcT l (t::r)=zcT (zhr t l) r:=rfl;have hp:=q1m.1 h;rw [e,zbb4 λx hx=>hp.2.2 x hx t (by simp),z7N r (l++[t]) (by simpa using h)]
  simp
theorem sum_nil {a:yB} (h:Srs a):zcT [] a=a:=z7N a [] h
theorem zbkt (a b:yB) (h:Srs a):zcT [] (a++b)=zcT a b:=by
 show (a++b).foldl (λa t=>zhr t a) []=_
 rw [List.foldl_append];show zcT (zcT [] a) b=_;rw [sum_nil h]
theorem zDC {y:Term}:∀ (b a:yB),Srs a->y∈zcT a b->∃ x,(x∈a\/x∈b)/\y.Fs=x.Fs
 | [],a,_,h=>⟨y,.inl h,rfl⟩
 | t::r,a,hs,h=>by
  obtain ⟨x,hx,e⟩:=zDC r (zhr t a) (zAK hs) h;rcases hx with hx | hx
  ·rcases (zAU hs).1 hx with ⟨h1,_⟩ | ⟨h1,_⟩
   ·exact ⟨x,.inl h1,e⟩
   ·exact ⟨t,.inr (by simp),e.trans h1⟩
  ·exact ⟨x,.inr (by simp [hx]),e⟩
theorem z9w {a b:Int} (ha:1<=a) (hb:1<=b):1<=ztv a b/\ztv a b<=1152921504606846976:=by
 unfold ztv;split
 ·omega
 ·omega
def cOK (t:Term):Prop:=1<=t.Cf/\t.Cf<=1152921504606846976
theorem zbbv {t:Term} (ht:cOK t):∀ {l:yB},(∀ x∈l,cOK x)->∀ x∈zhr t l,cOK x
 | [],_,x,hx=>by simp only [zhr,qj] at hx; subst hx; exact ht
 | y::r,h,x,hx=>by
  unfold zhr at hx;split at hx
  ·rcases q8.1 hx with rfl | hx
   ·exact h _ (by simp)
   ·exact zbbv ht (λz hz=>h z (by simp [hz])) x hx
  ·split at hx
   ·rcases q8.1 hx with rfl | hx
    ·exact z9w (h y (by simp)).1 ht.1
    ·exact h x (by simp [hx])
   ·rcases q8.1 hx with rfl | hx
    ·exact ht
    ·exact h x hx
theorem zbbF:∀ (b:yB) {a:yB},(∀ x∈a,cOK x)->(∀ x∈b,cOK x)->∀ x∈zcT a b,cOK x
 | [],a,ha,_=>ha
 | t::r,a,ha,hb=>zbbF r (zbbv (hb t (by simp)) ha) λx hx=>hb x (by simp [hx])
theorem z0B {t:Term}:∀ (l:yB),(zhr t l).length<=l.length+1
 | []=>by simp [zhr]
 | x::r=>by
  have:=z0B (t:=t) r;unfold zhr;split
  ·simp only [qc]; omega
  ·split <;>simp
theorem zDq:∀ (b a:yB),(zcT a b).length<=a.length+b.length
 | [],a=>by simp [zcT]
 | t::r,a=>by
  have h1:=zDq r (zhr t a);have h2:=z0B (t:=t) a;show (zcT (zhr t a) r).length<=_;simp only [qc]; omega
def cF (x y:Fc):Int:=zbe (zec x.At) (zec y.At)
theorem z9d {x y:Fc} (h:cF x y=0):x.At=y.At:=z5F _ _ (ztc _ _ h)
theorem z8O (x y:Fc):cF y x= - cF x y:=zgm _ _
theorem zbbf {a b c:TT} (h1:zbe a b<0) (h2:zbe b c<0):zbe a c<0:=by
 have h:=ztY a b c (by omega) (by omega)
 by_cases e:zbe a c=0
 ·have e':=ztc a c e;subst e';have:=zgm a b;omega
 ·omega
theorem zzY {x y z:Fc} (h1:cF x y<0) (h2:cF y z<0):cF x z<0:=zbbf h1 h2
abbrev Srf (l:yC):Prop:=l.Pairwise λx y=>cF x y<0
def zKy (f:Fc):yC->yC
 | []=>[f]
 | x::r=>if cF x f<0 then x::zKy f r else if cF x f=0 then (if f.At.Kind<3 then ⟨f.At,x.Exp+f.Exp⟩ else f)::r else f::x::r
def zbn:yC->yC->yC
 | [],b=>b
 | x::a,[]=>x::a
 | x::a,y::b=>if cF x y<0 then x::zbn a (y::b) else if 0<cF x y then y::zbn (x::a) b else (if x.At.Kind=3\/x.At.Kind=4 then x else ⟨x.At,x.Exp+y.Exp⟩)::zbn a b
termination_by a b=>a.length+b.length
theorem zIX (a:yC):zbn a []=a:=by cases a <;>rw [zbn]
theorem zNX {m:Fc} {L b:yC} (h:∀ z∈b,cF m z<0):zbn (m::L) b=m::zbn L b:=by
 cases b with
 | nil=>rw [zIX,zIX]
 | cons z b=>rw [zbn,if_pos (h z (by simp))]
def eOK (f:Fc):Prop:=(0<=f.At.Kind/\f.At.Kind<=4)/\(f.At.Kind=3\/f.At.Kind=4->f.Exp=1)
theorem zbcn {y:Fc} {b:yC} (hb:∀ z∈b,cF y z<0) (hy:eOK y):∀ {a:yC},(∀ x∈a,eOK x)->zbn (zKy y a) b=zbn a (y::b)
 | [],_=>by
  rw [zKy,zNX hb,zbn,zbn]
 | x::a,ha=>by
  unfold zKy;by_cases h1:cF x y<0
  ·rw [if_pos h1,zNX λz hz=>zzY h1 (hb z hz),zbcn hb hy λz hz=>ha z (by simp [hz]),zNX (m:=x) (b:=y::b) λz hz=>by
    rcases q8.1 hz with rfl | hz
    ·exact h1
    ·exact zzY h1 (hb z hz)]
  ·rw [if_neg h1];by_cases h2:cF x y=0
   ·have ea:=z9d h2
    rw [if_pos h2,zNX λz hz=>by
     have e:(if y.At.Kind<3 then (⟨y.At,x.Exp+y.Exp⟩:Fc) else y).At=y.At:=by split <;>rfl
     have:=hb z hz;unfold cF at this ⊢; rw [e]; exact this]
    rw [zbn,if_neg h1,if_neg (show ¬ 0<cF x y by omega)]
    congr 1;have hx:=ha x (by simp)
    obtain ⟨xa,xe⟩:=x;obtain ⟨ya,ye⟩:=y;simp only at ea;subst ea;obtain ⟨⟨k0,k4⟩,h3⟩:=hx;obtain ⟨_,h3'⟩:=hy;simp only at k0 k4 h3 h3' ⊢;by_cases hk:xa.Kind<3
    ·rw [if_pos hk,if_neg (by omega)]
    ·have hk':xa.Kind=3\/xa.Kind=4:=by omega
     rw [if_neg hk,if_pos hk',h3 hk',h3' hk']
   ·rw [if_neg h2,zNX hb];rw [zbn,if_neg h1,if_pos (by omega)]
theorem zUh:∀ (b a:yC),Srf b->(∀ x∈a,eOK x)->(∀ x∈b,eOK x)->b.foldl (λl f=>zKy f l) a=zbn a b
 | [],a,_,_,_=>by rw [zIX]; rfl
 | y::b,a,hs,ha,hb=>by
  have hc:=qh.1 hs;have hy:=hb y (by simp)
  rw [q11,zUh b (zKy y a) hc.2 (λx hx=> ?_) λx hx=>hb x (by simp [hx]),zbcn hc.1 hy ha]
  -- kinds and exponents are kept
  clear hs hc hb;induction a with
  | nil=>simp only [zKy,qj] at hx; subst hx; exact hy
  | cons z r ih=>
   unfold zKy at hx;split at hx
   ·rcases q8.1 hx with rfl | hx
    ·exact ha _ (by simp)
    ·exact ih (λw hw=>ha w (by simp [hw])) hx
   ·split at hx
    ·rcases q8.1 hx with rfl | hx
     ·split
      ·rename_i hk; exact ⟨hy.1,λh=>by simp only at h; omega⟩
      ·exact hy
     ·exact ha x (by simp [hx])
    ·rcases q8.1 hx with rfl | hx
     ·exact hy
     ·exact ha x hx
theorem zuF {x:Fc}:∀ {a b:yC},x∈zbn a b->∃ y,(y∈a\/y∈b)/\x.At=y.At
 | [],b,h=>⟨x,.inr (by rwa [zbn] at h),rfl⟩
 | y::a,[],h=>⟨x,.inl (by rwa [zbn] at h),rfl⟩
 | y::a,z::b,h=>by
  rw [zbn] at h;split at h
  ·rcases q8.1 h with rfl | h
   ·exact ⟨x,.inl (by simp),rfl⟩
   ·obtain ⟨w,hw,e⟩:=zuF h;rcases hw with hw | hw
    ·exact ⟨w,.inl (by simp [hw]),e⟩
    ·exact ⟨w,.inr hw,e⟩
  ·split at h
   ·rcases q8.1 h with rfl | h
    ·exact ⟨x,.inr (by simp),rfl⟩
    ·obtain ⟨w,hw,e⟩:=zuF h;rcases hw with hw | hw
     ·exact ⟨w,.inl hw,e⟩
     ·exact ⟨w,.inr (by simp [hw]),e⟩
   ·rcases q8.1 h with rfl | h
    ·exact ⟨y,.inl (by simp),by split <;>rfl⟩
    ·obtain ⟨w,hw,e⟩:=zuF h;rcases hw with hw | hw
     ·exact ⟨w,.inl (by simp [hw]),e⟩
     ·exact ⟨w,.inr (by simp [hw]),e⟩
termination_by a b=>a.length+b.length
theorem zNy:∀ (a b:yC),(zbn a b).length<=a.length+b.length
 | [],b=>by rw [zbn]; simp
 | y::a,[]=>by rw [zbn]; simp
 | y::a,z::b=>by
  rw [zbn];split
  ·have:=zNy a (z::b); simp only [qc] at this ⊢; omega
  ·split
   ·have:=zNy (y::a) b; simp only [qc] at this ⊢; omega
   ·have:=zNy a b; simp only [qc] at this ⊢; omega
termination_by a b=>a.length+b.length
theorem zNI {x:Fc} {B:Int}:∀ {a b:yC},(∀ y∈a,1<=y.Exp/\y.Exp<=B)->(∀ y∈b,1<=y.Exp/\y.Exp<=B)->x∈zbn a b->1<=x.Exp/\x.Exp<=2*B
 | [],b,ha,hb,h=>by rw [zbn] at h; have:=hb x h; omega
 | y::a,[],ha,hb,h=>by rw [zbn] at h; have:=ha x h; omega
 | y::a,z::b,ha,hb,h=>by
  have hy:=ha y (by simp)
  have hz:=hb z (by simp)
  rw [zbn] at h;split at h
  ·rcases q8.1 h with rfl | h
   ·omega
   ·exact zNI (λw hw=>ha w (by simp [hw])) hb h
  ·split at h
   ·rcases q8.1 h with rfl | h
    ·omega
    ·exact zNI ha (λw hw=>hb w (by simp [hw])) h
   ·rcases q8.1 h with rfl | h
    ·split
     ·omega
     ·simp only; omega
    ·exact zNI (λw hw=>ha w (by simp [hw])) (λw hw=>hb w (by simp [hw])) h
termination_by a b=>a.length+b.length
def zvn (a b:Int):Int:=if Int.tdiv 1152921504606846976 b<a then 1152921504606846976 else a*b
def zj9 (x y:Term):Term:=⟨zvn x.Cf y.Cf,zbn x.Fs y.Fs⟩
def zdC (a b:yB):yB:=a.flatMap λx=>b.map (zj9 x)
def zd0 (a b:yB):yB:=zcT [] (zdC a b)
theorem zLc {a b:Int} (ha:1<=a/\a<=1152921504606846976) (hb:1<=b/\b<=1152921504606846976):(1<=zvn a b/\zvn a b<=1152921504606846976)/\(¬ Int.tdiv 1152921504606846976 b<a->a*b<=1152921504606846976):=by
 have h1:¬ Int.tdiv 1152921504606846976 b<a->a*b<=1152921504606846976:=λh=>by
  rw [Int.tdiv_eq_ediv_of_nonneg (by omega)] at h
  have h2:a<=1152921504606846976 / b:=by omega
  exact (Int.le_ediv_iff_mul_le (by omega)).1 h2
 refine ⟨?_,h1⟩;unfold zvn;split
 ·omega
 ·rename_i h;refine ⟨?_,h1 h⟩;have:=Int.mul_le_mul ha.1 hb.1 (by omega) (by omega)
  omega
theorem zIa {t:Term} {a b:yB} (h:t∈zdC a b):∃ x∈a,∃ y∈b,t=zj9 x y:=by
 obtain ⟨x,hx,ht⟩:=List.mem_flatMap.1 h;obtain ⟨y,hy,rfl⟩:=q1p.1 ht;exact ⟨x,hx,y,hy,rfl⟩
theorem zPX (a b:yB):(zdC a b).length=a.length*b.length:=by
 unfold zdC;induction a with
 | nil=>simp
 | cons x r ih=>rw [q1f,qf,ih,q1b,qc,q2s]; omega
section
variable (g:yB->Bool×yB)
theorem zbnl (l:yA) (hl:l.length<=1000000) (hg:∀ a∈l,g a=(true,a)) (n:Nat) (hn:l.length<n) (x0 x1 x2 x3:Int) (x4:yD) (x5 x6 x7:Int) (x8:ByteArray) (t0 t1 t2 t3 t4 t5 t6:Int) (t7:ByteArray):
  zyg g n l.length 0 x0 x1 x2 x3 x4 x5 x6 x7 x8 t0 t1 t2 t3 t4 t5 t6 t7 l=(true,(x0,x1,x2,x3,x4,x5,x6,x7,x8,t0,t1,t2,t3,t4,t5,t6,t7,l)):=by
 have:=zcs (W:=zoY g) (z:=default) l.length (λi=>((),(),(l.length:Int),(i:Int),())) (λ_=>((x0,x1,x2,(),x3,x4,x5,x6,x7,x8,()),(t0,t1,t2,(),t3,(),t4,t5,t6,t7,()),l,())) (λ_=>true) default (x0,x1,x2,x3,x4,x5,x6,x7,x8,t0,t1,t2,t3,t4,t5,t6,t7,l)
  (λi hi H K D=>by
   show (zgX g l.length i x0 x1 x2 x3 x4 x5 x6 x7 x8 t0 t1 t2 t3 t4 t5 t6 t7 l).ev H K D=_;unfold zgX Wy.ix;simp only [Wy.ev_i,Wy.ev_k,Wy.ev_h,Wy.ev_bn,Wy.ev_d,tT,hi,hg _ (zm hi)];rw [zu (by omega),z3a hi])
  (λH K D=>by
   show (zgX g l.length l.length x0 x1 x2 x3 x4 x5 x6 x7 x8 t0 t1 t2 t3 t4 t5 t6 t7 l).ev H K D=_;unfold zgX Wy.ix;simp only [Wy.ev_i,Wy.ev_k,tT,qr]) n hn
 rw [show zd5 (λ_=>true) l.length 0=true from zdU.2 λ_ _ _=>rfl] at this
 exact this
theorem zbnF (l:yD) (hl:l.length<=1000000) (hg:∀ a∈l,g a.Ann=(true,a.Ann)) (n:Nat) (hn:l.length<n) (x0 x1 x2 x3 x4 x5 x6:Int) (x7:ByteArray) (t0 t1 t2 t3 t4 t5 t6:Int) (t7:ByteArray) (b2:yA):
  zx3 g n l.length 0 x0 x1 x2 x3 x4 x5 x6 x7 t0 t1 t2 t3 t4 t5 t6 t7 b2 l=(true,(x0,x1,x2,x3,x4,x5,x6,x7,t0,t1,t2,t3,t4,t5,t6,t7,b2,l)):=by
 have:=zcs (W:=zoU g) (z:=default) l.length (λi=>((),(),(l.length:Int),(i:Int),())) (λ_=>((x0,x1,x2,(),x3,(),x4,x5,x6,x7,()),(t0,t1,t2,(),t3,(),t4,t5,t6,t7,()),b2,l,())) (λ_=>true) default (x0,x1,x2,x3,x4,x5,x6,x7,t0,t1,t2,t3,t4,t5,t6,t7,b2,l)
  (λi hi H K D=>by
   show (zgP g l.length i x0 x1 x2 x3 x4 x5 x6 x7 t0 t1 t2 t3 t4 t5 t6 t7 b2 l).ev H K D=_;unfold zgP Wy.ix;simp only [Wy.ev_i,Wy.ev_k,Wy.ev_h,Wy.ev_bn,Wy.ev_d,tT,hi,hg _ (zm hi)];have:l.set i (⟨(l.getD i default).Value,(l.getD i default).Ann⟩:Wd)=l:=z3a hi;rw [zu (by omega),this])
  (λH K D=>by
   show (zgP g l.length l.length x0 x1 x2 x3 x4 x5 x6 x7 t0 t1 t2 t3 t4 t5 t6 t7 b2 l).ev H K D=_;unfold zgP Wy.ix;simp only [Wy.ev_i,Wy.ev_k,tT,qr]) n hn
 rw [show zd5 (λ_=>true) l.length 0=true from zdU.2 λ_ _ _=>rfl] at this
 exact this
theorem z5o (x:At) (h1:x.Ag.length<=1000000) (h2:x.Items.length<=1000000) (hg:∀ a∈x.Ag,g a=(true,a)) (hgi:∀ w∈x.Items,g w.Ann=(true,w.Ann)):zjk g x=(true,x):=by
 have hreach:zD=70368744177664:=rfl;unfold zjk zzh zdZ zeI
 have e1:∀ k:Nat,k<=1000->decide (x.Ag.length*k<=zD)=true:=λk hk=>by
  have:=q1z h1 hk;simp only [qb]; omega
 have e2:∀ k:Nat,k<=1000->decide (x.Items.length*k<=zD)=true:=λk hk=>by
  have:=q1z h2 hk;simp only [qb]; omega
 simp only [Wy.fin_bn,Wy.fin_k,e1 _ (by omega:24<=1000),e2 _ (by omega:56<=1000),qw,q7]
 rw [zbnl g _ h1 hg _ (by omega)]
 simp only [q7,e2 _ (by omega:56<=1000)]
 rw [zbnF g _ h2 hgi _ (by omega)]
 simp only [q7];cases x; rfl
theorem zbet (gx:At->Bool×At) (a:yB) (hl:a.length<=1000000) (hg:∀ t∈a,t.Fs.length<=1000000/\∀ f∈t.Fs,gx f.At=(true,f.At)):zmt gx a=(true,a):=by
 unfold zmt zD7;have:=zbnV gx a hl hg (a.length+(Int.ofNat a.length).toNat +Int.toNat (0:Int)+(0:Nat)+(1:Nat)) (by omega)
 rw [show Int.ofNat a.length=(a.length:Int) from rfl] at *
 rw [Wy.fin_bn,this]; rfl
end
theorem z5e:∀ n,
  (∀ d a,zq d a->2*d<=n->zmv n a=(true,a))/\
  (∀ d x,zdl (zq d) x->2*d+1<=n->zmn n x=(true,x))
 | 0=>by
  refine ⟨λd a h hd=> ?_,λd x h hd=>by omega⟩
  have:d=0:=by omega
  subst this; exact h.elim
 | n+1=>by
  obtain ⟨h1,h2⟩:=z5e n;refine ⟨λd a h hd=> ?_,λd x h hd=> ?_⟩
  ·cases d with
   | zero=>exact h.elim
   | succ d=>
    rw [zQ0];exact zbet _ a h.1 λt ht=>⟨(h.2 t ht).1,λf hf=>h2 d _ ((h.2 t ht).2 f hf) (by omega)⟩
  ·rw [zJ9];exact z5o _ x h.1.1 h.1.2.1 (λa ha=>h1 d a (h.2.1 a ha) (by omega)) λw hw=>h1 d _ (h.2.2 w hw).2 (by omega)
theorem zIs {d:Nat} {a:yB} (h:zq d a) (hd:d<=100):zhk a=(true,a):=(z5e 1000).1 d a h (by omega)
def zkR (a:yB):yB×Int:=bif zfN a then (a,0) else ([],6)
theorem zAv {d:Nat} {a:yB} (h:zq d a) (hd:d<=100) (hs:zO a<=4611686018427387904):zeC a=(true,zkR a):=by
 unfold zeC zFG zkR;simp only [Wy.fin_bn,Wy.fin_i,Wy.fin_k,z91 h hd hs,zIs h hd,q7];cases zfN a <;>rfl
theorem zAj {d:Nat} {a:yB} (h:zq d a) (hd:d<=100) (hs:zO a<=4611686018427387904):znr a=(true,zkR a):=by
 unfold znr z2r zkR;simp only [Wy.fin_bn,Wy.fin_i,Wy.fin_k,zbe8 h hd hs,q7];cases zfN a <;>rfl
def zcE (x:At):yB:=[⟨1,[⟨x,1⟩]⟩]
theorem zIO (x:At):(zfH x).2=zcE x:=by
 unfold zfH zGH At.et;rw [At.eta]; rfl
theorem zD2 (x:At):(znh x).2=zcE x:=by
 unfold znh z0b At.et;rw [At.eta]; rfl
theorem zZF {d:Nat} {x:At} (h:zdl (zq d) x):zq (d+1) (zcE x):=by
 refine ⟨by simp [zcE],λt ht=> ?_⟩
 simp only [zcE,qj] at ht;subst ht;refine ⟨by simp,λf hf=> ?_⟩
 simp only [qj] at hf;subst hf; exact h
theorem z3f (x:At):zO (zcE x)=2+zft x:=by
 rw [zcE,zf7,zxf,zda,zi2];simp only [qy]; omega
section
variable {α β ρ τ:Type} [Inhabited τ]
theorem z0y (p:τ->Bool):∀ l:List τ,l.take (l.takeWhile p).length=l.takeWhile p
 | []=>rfl
 | x::r=>by
  rw [q34];cases p x with
  | true=>simp [z0y p r]
  | false=>simp
theorem z0z (p:τ->Bool):∀ l:List τ,l.drop (l.takeWhile p).length=l.dropWhile p
 | []=>rfl
 | x::r=>by
  rw [q34,List.dropWhile_cons];cases p x with
  | true=>simp [z0z p r]
  | false=>simp
theorem zbnR (p:τ->Bool) (l:List τ):(l.takeWhile p).length<=l.length:=(List.takeWhile_prefix p).length_le
theorem z9B {W:α->β->Wy α β ρ} {z:ρ} (l:List τ) (p:τ->Bool) (ex:Nat->α) (ey:Nat->β) (res:Nat->ρ)
  (h:∀ i,i<l.length->∀ (H:α->β->Bool×ρ) K D,(W (ex i) (ey i)).ev H K D=bif p (l.getD i default) then H (ex (i+1)) (ey (i+1)) else K (res i))
  (he:∀ (H:α->β->Bool×ρ) K D,(W (ex l.length) (ey l.length)).ev H K D=K (res l.length)):
  ∀ n i,l.length<i+n->i<=l.length->zy W z n (ex i) (ey i)=(true,res (i+((l.drop i).takeWhile p).length))
 | 0,i,h1,h2=>by omega
 | n+1,i,h1,h2=>by
  show (W (ex i) (ey i)).ev (zy W z n) (λr=>(true,r)) (false,z)=_
  by_cases hi:i<l.length
  ·rw [h i hi,zbd hi,q34];cases hp:p (l.getD i default) with
   | false=>simp
   | true=>
    rw [q7,z9B l p ex ey res h he n (i+1) (by omega) (by omega)]
    simp only [if_true,qc];congr 2; omega
  ·have:i=l.length:=by omega
   subst this;rw [he,zb2 hi]; rfl
theorem zT1 {W:α->β->Wy α β ρ} {z:ρ} (l:List τ) (p:τ->Bool) (ex:Nat->α) (ey:Nat->β) (res:Nat->ρ)
  (h:∀ i,i<l.length->∀ (H:α->β->Bool×ρ) K D,(W (ex i) (ey i)).ev H K D=bif p (l.getD i default) then H (ex (i+1)) (ey (i+1)) else K (res i))
  (he:∀ (H:α->β->Bool×ρ) K D,(W (ex l.length) (ey l.length)).ev H K D=K (res l.length)) (n:Nat) (hn:l.length<n):
  zy W z n (ex 0) (ey 0)=(true,res (l.takeWhile p).length):=by
 have:=z9B (z:=z) l p ex ey res h he n 0 (by omega) (by omega)
 simpa using this
def zVm (p:τ->Bool) (x:τ) (l:List τ):List τ:=l.takeWhile p++x::l.dropWhile p
theorem z9I (p:τ->Bool) (x y:τ) (r:List τ):zVm p x (y::r)=bif p y then y::zVm p x r else x::y::r:=by
 unfold zVm;rw [q34,List.dropWhile_cons];cases p y <;>simp
theorem zIY (p:τ->Bool) (x:τ):∀ l:List τ,(zVm p x l).Perm (x::l)
 | []=>.refl _
 | y::r=>by
  rw [z9I];cases p y
  ·exact .refl _
  ·exact ((zIY p x r).cons y).trans (.swap x y r)
abbrev Srt (key:τ->TT) (l:List τ):Prop:=l.Pairwise λx y=>zbe (key x) (key y)<=0
theorem zbdC (key:τ->TT) (x:τ):∀ l:List τ,Srt key l->Srt key (zVm (λy=>decide (zbe (key y) (key x)<=0)) x l)
 | [],_=>by simp [zVm]
 | y::r,h=>by
  have h:=qh.1 h;rw [z9I];by_cases hp:zbe (key y) (key x)<=0
  ·rw [qg hp];refine qh.2 ⟨λz hz=> ?_,zbdC key x r h.2⟩
   rcases q8.1 ((zIY _ x r).mem_iff.1 hz) with rfl | hz
   ·exact hp
   ·exact h.1 z hz
  ·rw [qd hp];have hxy:zbe (key x) (key y)<=0:=by have:=zgm (key x) (key y); omega
   refine qh.2 ⟨λz hz=> ?_,qh.2 h⟩
   rcases q8.1 hz with rfl | hz
   ·exact hxy
   ·exact ztY _ _ _ hxy (h.1 z hz)
end
theorem z8I {τ:Type} (l:List τ) (k:Nat):List.take (k - Int.toNat 0) (List.drop (Int.toNat 0) l)=l.take k:=by simp
theorem zD9 {τ:Type} (l:List τ) (k:Nat):List.take ((Int.ofNat l.length).toNat - k) (List.drop k l)=l.drop k:=by
 simp only [qw,qt];rw [q24 (by simp)]
theorem zbbY (n:Nat):(n==0)= !decide (0<n):=by cases n <;>simp
def zm2 (w:Wd):Bool:=decide (0<w.Ann.length)
def zdR (l:yD):yD:=zou z7 (l.filter zm2)
theorem zML {d:Nat} {l:yD} (hl:l.length<=1000000) (h:∀ w∈l,zq d w.Ann) (hd:d<=99):SortOK z7 l:=by
 have e:∀ x∈l,∀ y,z7 x y=(true,zbe (zbf x) (zbf y)):=λx hx y=>zkf (h x hx) hd y
 refine ⟨by omega,λx hx y _=>by rw [e x hx],λx hx=> ?_,λx hx y hy z hz h1 h2=> ?_,λx hx y hy z hz h1 h2=> ?_,λx hx y hy h1 h2=> ?_⟩
 ·rw [e x hx,zD0]; omega
 ·rw [e x hx] at h1 ⊢; rw [e y hy] at h2;have h3:=ztY _ _ _ (show zbe (zbf x) (zbf y)<=0 by simp only at h1; omega) (show zbe (zbf y) (zbf z)<=0 by simp only at h2; omega)
  simp only at h1 h2 ⊢;by_cases e0:zbe (zbf x) (zbf z)=0
  ·have:=ztc _ _ e0;rw [<- this,zgm (zbf x) (zbf y)] at h2;omega
  ·omega
 ·rw [e x hx] at h1 ⊢; rw [e y hy] at h2;simp only at h1 h2 ⊢;have a1:=zgm (zbf x) (zbf y);have a2:=zgm (zbf y) (zbf z);have a3:=zgm (zbf x) (zbf z);have:=ztY (zbf z) (zbf y) (zbf x) (by omega) (by omega)
  omega
 ·rw [e x hx] at h1; rw [e y hy] at h2;simp only at h1 h2;have a1:=zgm (zbf x) (zbf y);exact z6M _ _ (ztc _ _ (by omega))
theorem zbkR {d:Nat} (l:yD) (hl:l.length<=1000000) (h:∀ w∈l,zq d w.Ann) (hd:d<=99) (n:Nat) (hn:l.length<n):zGv n l l.length 0 []=(true,l.filter zm2):=by
 have hreach:zD=70368744177664:=rfl;have hfl:∀ i,(List.filter zm2 (l.take i)).length<=1000000:=λi=>q18 (q2f _ _) (q18 (by simp; omega) hl)
 have:=zcs (W:=zyE) (z:=default) l.length (λi=>((),l,(l.length:Int),(i:Int),())) (λi=>((l.take i).filter zm2,())) (λ_=>true) default (l.filter zm2)
  (λi hi H K D=>by
   show (zmJ l l.length i ((l.take i).filter zm2)).ev H K D=_;unfold zmJ Wy.ix;have hb2:decide (((List.filter zm2 (l.take i)).length+1)*56<=zD)=true:=by have:=hfl i; simp only [qb]; omega
   have hgt:decide (((l.getD i default).Ann.length:Int)>0)=zm2 (l.getD i default):=zjR _ 0;simp only [Wy.ev_i,Wy.ev_k,Wy.ev_h,Wy.ev_bn,Wy.ev_d,tT,hi,zIs (h _ (zm hi)) (by omega:d<=100),hgt,qy,hb2]
   rw [zu (by omega),zkE hi,q36,q2u]
   cases zm2 (l.getD i default) with
   | true=>simp
   | false=>simp)
  (λH K D=>by
   show (zmJ l l.length l.length ((l.take l.length).filter zm2)).ev H K D=_;unfold zmJ Wy.ix;simp only [Wy.ev_i,Wy.ev_k,tT,qr,q2v]) n hn
 rw [show zd5 (λ_=>true) l.length 0=true from zdU.2 λ_ _ _=>rfl] at this
 exact this
theorem zbc0 {d:Nat} {l:yD} (h:∀ w∈l,zq d w.Ann) (hd:d<=99) (h20:l.length<20):zbb l=(true,zou z7 l):=by
 have ok:SortOK z7 l:=zML (d:=d) (by omega) h hd
 unfold zbb;simp only [qg ok,qg h20,q13]
theorem zbiK {d:Nat} (l:yD) (hl:l.length<=1000000) (h:∀ w∈l,zq d w.Ann) (hd:d<=99) (h20:(l.filter zm2).length<20):zrg l=(true,zdR l):=by
 unfold zrg zI7 zdR;have:=zbkR l hl h hd (l.length+(Int.ofNat l.length).toNat +Int.toNat (0:Int)+(0:Nat)+(1:Nat)) (by omega)
 rw [show Int.ofNat l.length=(l.length:Int) from rfl] at *
 rw [Wy.fin_bn,this];simp only [Wy.fin_bn,Wy.fin_k,q7,zbc0 (λw hw=>h w (q2z.1 hw).1) hd h20]
def zyY (w:Wd) (out:yD):yD:=bif zm2 w then zVm (λy=>decide (zbe (zbf y) (zbf w)<=0)) w out else out
theorem zbiY {d:Nat} (l:yD) (i:Nat) (hi:i<l.length) (hl:l.length<=1000000) (out:yD) (ho:out.length<=1000000) (h:∀ w∈out,zq d w.Ann) (hd:d<=99) (n:Nat) (hn:out.length<n):
  zRo n l i 0 out=(true,(l,(i:Int),(((out.takeWhile λy=>decide (zbe (zbf y) (zbf (l.getD i default))<=0)).length:Nat):Int),out)):=by
 exact zT1 (W:=zG2) (z:=default) out (λy=>decide (zbe (zbf y) (zbf (l.getD i default))<=0)) (λk=>(l,(),(i:Int),(k:Int),())) (λ_=>(out,())) (λk=>(l,(i:Int),(k:Int),out))
  (λk hk H K D=>by
   show (zvK l i k out).ev H K D=_;unfold zvK;have e1:(decide ((k:Int)<=((k+1:Nat):Int))&&decide (((k+1:Nat):Int)<=Int.ofNat out.length))=true:=by simp; try omega
   have e2:(decide ((i:Int)<=((i+1:Nat):Int))&&decide (((i+1:Nat):Int)<=Int.ofNat l.length))=true:=by simp; try omega
   have e3:decide ((k:Int)<Int.ofNat out.length)=true:=by simp [hk]
   simp only [Wy.ev_i,Wy.ev_k,Wy.ev_h,Wy.ev_bn,Wy.ev_d,zu (show k<4611686018427387904 by omega),zu (show i<4611686018427387904 by omega),e1,e2,e3,ze4,q1j,q7,qt,show k+1 - k=1 by omega,show i+1 - i=1 by omega,zbbE _ _ hi,zbbE _ _ hk]
   rw [zD3 (d:=d) (by simp) (λw hw=>by
    rw [qj] at hw; subst hw; exact h _ (zm hk)) hd,zm8,zm8]
   simp only [List.map,zbjO,q7])
  (λH K D=>by
   show (zvK l i out.length out).ev H K D=_;unfold zvK;have e3:decide ((out.length:Int)<Int.ofNat out.length)=false:=by simp
   simp only [Wy.ev_i,Wy.ev_k,e3,q9]) n hn
theorem zbhi (w:Wd) (out:yD):(zyY w out).length<=out.length+1:=by
 unfold zyY;cases zm2 w with
 | false=>simp
 | true=>simp only [q7]; rw [(zIY _ w out).length_eq]; simp
theorem zbir {w y:Wd} {out:yD} (h:y∈zyY w out):y=w\/y∈out:=by
 unfold zyY at h;cases hb:zm2 w with
 | false=>rw [hb] at h; exact .inr h
 | true=>rw [hb] at h; exact q8.1 ((zIY _ w out).mem_iff.1 h)
theorem zbi3 {d:Nat} (l:yD) (hl:l.length<=1000000) (h:∀ w∈l,zq d w.Ann) (hd:d<=99) (n:Nat) (hn:l.length<n):zR0 n l 0 []=(true,l.foldl (λout w=>zyY w out) []):=by
 have hreach:zD=70368744177664:=rfl
 have:=zcL (W:=zHj) (z:=default) (l:=l) (λi (out:yD)=>(l,(),(i:Int),())) (λ_ out=>(out,())) (λw out=>.inl (zyY w out)) (λout=>out) (λi out=>out.length<=i/\∀ w∈out,zq d w.Ann)
  (λi out hi hI=>.inl ⟨_,rfl,⟨by have:=zbhi (l.getD i default) out; omega,λw hw=>by
    rcases zbir hw with rfl | hw
    ·exact h _ (zm hi)
    ·exact hI.2 w hw⟩,λH K D=>by
   show (zvq l i out).ev H K D=_;unfold zvq Wy.ix;have e0:((l.getD i default).Ann.length==0)= !zm2 (l.getD i default):=zbbY _;have e3:decide ((i:Int)<Int.ofNat l.length)=true:=by simp [hi]
   simp only [Wy.ev_i,Wy.ev_k,Wy.ev_h,Wy.ev_bn,Wy.ev_d,e3,ze4,q13,q7,qt,show (Int.ofNat (l.getD i default).Ann.length==(0:Int))=((l.getD i default).Ann.length==0) from ztE _ 0,e0]
   rw [zbiY l i hi hl out (by omega) hI.2 hd _ (by omega)]
   simp only [q7,z8I,zD9,q10,qt,e3,ze4,q13,Int.le_refl,decide_true,q1j,q23];have q1:=zbnR (λy=>decide (zbe (zbf y) (zbf (l.getD i default))<=0)) out
   have q2:decide (((out.takeWhile λy=>decide (zbe (zbf y) (zbf (l.getD i default))<=0)).length:Int)<=Int.ofNat out.length)=true:=by simp only [qb,qw]; omega
   have hb1:decide ((0+(out.take (out.takeWhile λy=>decide (zbe (zbf y) (zbf (l.getD i default))<=0)).length).length)*56<=zD)=true:=by simp only [qb,q15]; omega
   have hb2:decide (((out.take (out.takeWhile λy=>decide (zbe (zbf y) (zbf (l.getD i default))<=0)).length).length+[l.getD i default].length)*56<=zD)=true:=by simp only [qb,q15,qy]; omega
   have hb3:decide (((out.take (out.takeWhile λy=>decide (zbe (zbf y) (zbf (l.getD i default))<=0)).length++[l.getD i default]).length+(out.drop (out.takeWhile λy=>decide (zbe (zbf y) (zbf (l.getD i default))<=0)).length).length)*56<=zD)=true:=by simp only [qb,qf,q15,qy,q2q]; omega
   simp only [q2,hb1,hb2,hb3,q7];rw [zu (by omega),z0y,z0z]
   unfold zyY zVm;cases zm2 (l.getD i default) <;>simp⟩)
  (λout hI H K D=>by
   show (zvq l l.length out).ev H K D=_;unfold zvq Wy.ix;have e3:decide ((l.length:Int)<Int.ofNat l.length)=false:=by simp
   simp only [Wy.ev_i,Wy.ev_k,e3,q9]) n 0 [] (by omega) (by omega) ⟨by simp,λw hw=>by cases hw⟩
 rw [qq,zcN] at this;exact this
theorem z5U:∀ (l out:yD),(l.foldl (λout w=>zyY w out) out).Perm (l.filter zm2++out)/\(Srt zbf out->Srt zbf (l.foldl (λout w=>zyY w out) out))
 | [],out=>⟨.refl _,λh=>h⟩
 | w::r,out=>by
  obtain ⟨h1,h2⟩:=z5U r (zyY w out);rw [q11,q2u];cases hb:zm2 w with
  | false=>
   have e:zyY w out=out:=by unfold zyY; rw [hb]; rfl
   rw [e] at h1 h2 ⊢;exact ⟨by simpa using h1,h2⟩
  | true=>
   have e:zyY w out=zVm (λy=>decide (zbe (zbf y) (zbf w)<=0)) w out:=by unfold zyY; rw [hb]; rfl
   rw [e] at h1 h2 ⊢;refine ⟨?_,λh=>h2 (zbdC zbf w out h)⟩
   simp only [if_true,qo];exact h1.trans (((zIY _ w out).append_left _).trans List.perm_middle)
theorem zbg6 {d:Nat} (l:yD) (hl:l.length<=1000000) (h:∀ w∈l,zq d w.Ann) (hd:d<=99):zBS l=(true,zdR l):=by
 unfold zBS zVG;rw [Wy.fin_bn,zbi3 l hl h hd _ (by omega)]
 simp only [q7,Wy.fin_k];congr 1;obtain ⟨h1,h2⟩:=z5U l [];rw [q1o] at h1;have hm:∀ w∈l.filter zm2,zq d w.Ann:=λw hw=>h w (q2z.1 hw).1
 refine (zML (d:=d) (q18 (q2f _ _) hl) hm hd).unique h1 ?_;refine (h2 .nil).imp_of_mem λ{x y} hx hy hxy=> ?_
 rw [zkf (hm y (h1.mem_iff.1 hy)) hd,zgm (zbf x) (zbf y)];simp only; omega
def zMM (op sign:Int):Bool:=bif op==5 then sign==0 else bif op==6 then sign != 0 else bif op==7 then decide (sign<0) else bif op==8 then decide (sign<=0) else bif op==9 then decide (sign>0) else decide (sign≥0)
theorem zbjh (op sign:Int):zq9 op sign=(true,zMM op sign):=by
 unfold zq9 zIp zMM;simp only [Wy.fin_i,Wy.fin_k];cases op==5 <;>cases op==6 <;>cases op==7 <;>cases op==8 <;>cases op==9 <;>rfl
theorem zbgF {op sign:Int} (h1:5<=op) (h2:op<=10):zxw op sign=(true,zMM op sign):=by
 unfold zxw zPT zMM;simp only [Wy.fin_i,Wy.fin_k,zfi];by_cases a1:op=5
 ·simp [a1]
 by_cases a2:op=6
 ·simp [a2]
 by_cases a3:op=7
 ·simp [a3]
 by_cases a4:op=8
 ·simp [a4]
 by_cases a5:op=9
 ·simp [a5]
 have a6:op=10:=by omega
 simp [a6]
def zMW (fn:Int) (l:yD) (op:Int) (b:Value):At:=⟨4,⟨0,0⟩,[],fn,l,op,b⟩
def zr5 (fn:Int) (items:yD) (op:Int) (b:Value):yB×Int:=
 bif !(zyw fn items op b&&items.all λw=>zx w.Ann) then ([],1) else
 bif decide (0<(zdR items).length) then zkR (zcE (zMW fn (zdR items) op b)) else
 bif fn==0&&zMM op (zef 0 b.Int) then ([⟨1,[]⟩],0) else ([],0)
theorem zLU {l:yD} {w:Wd} (h:w∈zdR l):w∈l/\w.Ann≠[]:=by
 have:=(zqf _ _).mem_iff.1 h;obtain ⟨h1,h2⟩:=q2z.1 this;refine ⟨h1,λe=> ?_⟩
 rw [zm2,e] at h2; simp at h2
theorem z4P (l:yD):(zdR l).length=(l.filter zm2).length:=(zqf _ _).length_eq
theorem zYK {B:Nat}:∀ l:yD,(∀ w∈l,zO w.Ann<=B)->zdm l<=l.length*(B+1)
 | [],_=>by rw [zfS]; simp
 | w::r,h=>by
  rw [ziE,qc];have h1:=h w (by simp)
  have h2:=zYK r λw hw=>h w (by simp [hw])
  rw [q2s]; omega
theorem zMU {fn:Int} {l:yD} {op:Int} {b:Value} (hl:l.length<=1000000) (hf:zyw fn l op b=true) (hv:(l.all λw=>zx w.Ann)=true):zq 10 (zcE (zMW fn (zdR l) op b))/\zO (zcE (zMW fn (zdR l) op b))<=4611686018427387904:=by
 obtain ⟨_,hb,hit⟩:=ztR hf;have hvv:∀ w∈l,zx w.Ann=true:=λw hw=>q1d.1 hv w hw
 have hlen:(zdR l).length<=1000000:=by rw [z4P]; exact q18 (q2f _ _) hl
 constructor
 ·refine zZF ⟨⟨by simp [zMW],hlen,by have:=zww hb; simp only [zMW]; omega⟩,λy hy=>(by cases hy),λw hw=> ?_⟩
  have hm:=(zLU hw).1;exact ⟨by have:=zww (hit w hm).1; omega,(zeM (hvv w hm)).1⟩
 ·rw [z3f,zhM];have h1:zdm (zdR l)<=(zdR l).length*(4096+1):=zYK _ λw hw=>(zeM (hvv w (zLU hw).1)).2.1
  show 2+(zfn []+zdm (zdR l))<=_;rw [zg4];have:=q1z hlen (qn (4096+1));omega
theorem zbkP {d:Nat} (l:yD) (hl:l.length<=1000000) (h:∀ w∈l,zq d w.Ann/\zO w.Ann<=4611686018427387904) (hd:d<=99):zch l=(true, !l.all λw=>zx w.Ann):=by
 unfold zch zho;have:zds l=IG (λ(_:Unit) x=>znI x) (l.length+(Int.ofNat l.length).toNat +Int.toNat (0:Int)+(1:Nat)) () l:=rfl
 rw [zk5 (P:=λw=> !zx w.Ann) (this.trans (zLF _ _ _ _ _ (by omega) (λx hx=>by
  unfold znI zEz;rw [Wy.fin_bn,z9M (h x hx).1 (by omega) (h x hx).2]; rfl) (by omega)))]
 simp [q21]
theorem zbk1 {d:Nat} (fn:Int) (l:yD) (op:Int) (b:Value) (hl:l.length<=1000000) (h:∀ w∈l,zq d w.Ann/\zO w.Ann<=4611686018427387904) (hd:d<=99) (h20:(l.filter zm2).length<20):
  zoz fn l op b=(true,zr5 fn l op b):=by
 unfold zoz zKY zr5;have hI:=zbiK l hl (λw hw=>(h w hw).1) hd h20
 have hgt:decide (Int.ofNat (zdR l).length>0)=decide (0<(zdR l).length):=zjR _ 0;simp only [Wy.fin_bn,Wy.fin_i,Wy.fin_k,z5p fn l op b hl,zbkP l hl h hd,hI,q7,hgt];cases hf:zyw fn l op b with
 | false=>rfl
 | true=>
  cases hv:l.all λw=>zx w.Ann with
  | false=>rfl
  | true=>
   simp only [qk,q9,q13];rw [zIO];have hx:(⟨4,⟨0,0⟩,[],fn,zdR l,op,b⟩:At)=zMW fn (zdR l) op b:=rfl;rw [hx,zAv (zMU hl hf hv).1 (by omega) (zMU hl hf hv).2]
   cases decide (0<(zdR l).length) with
   | true=>rfl
   | false=>
    simp only [q9,zwV,zbjh,q7];cases fn==0 with
    | false=>rfl
    | true=>
     cases zMM op (zef 0 b.Int) <;>rfl
theorem zbd2 {d:Nat} (fn:Int) (l:yD) (op:Int) (b:Value) (hl:l.length<=1000000) (h:∀ w∈l,zq d w.Ann/\zO w.Ann<=4611686018427387904) (hd:d<=99):
  zwL fn l op b=(true,zr5 fn l op b):=by
 unfold zwL zZB zr5;have hI:=zbg6 l hl (λw hw=>(h w hw).1) hd
 have hgt:decide (0<(zdR l).length)= !((zdR l).length==0):=by rw [zbbY,Bool.not_not]
 have hL:zVx (fn.toNat +l.length+op.toNat +Int.toNat (0:Int)+(1:Nat)) fn l op (0:Int) b=(true,bif l.all λw=>zx w.Ann then .inr (fn,l,op,b) else .inl 1):=by
  have:=zcs (W:=zJM) (z:=.inl default) l.length (λi=>(fn,l,op,(),(i:Int),())) (λ_=>(b,())) (λi=>(λw:Wd=>zx w.Ann) (l.getD i default)) (.inl 1) (.inr (fn,l,op,b))
   (λi hi H K D=>by
    show (zxy fn l op i b).ev H K D=_;unfold zxy Wy.ix;have hx:=h _ (zm hi);simp only [Wy.ev_i,Wy.ev_k,Wy.ev_h,Wy.ev_bn,Wy.ev_d,tT,hi,z5n hx.1 (by omega) hx.2]
    rw [zu (by omega)]
    cases zx (l.getD i default).Ann <;>rfl)
   (λH K D=>by
    show (zxy fn l op l.length b).ev H K D=_;unfold zxy Wy.ix;simp only [Wy.ev_i,Wy.ev_k,tT,qr]) (fn.toNat +l.length+op.toNat +Int.toNat (0:Int)+(1:Nat)) (by omega)
  rw [zz3 (λw:Wd=>zx w.Ann)] at this
  exact this
 simp only [Wy.fin_bn,Wy.fin_i,Wy.fin_k,zbcH fn l op b hl,hL,q7,hgt];cases hf:zyw fn l op b with
 | false=>rfl
 | true=>
  cases hv:l.all λw=>zx w.Ann with
  | false=>rfl
  | true=>
   simp only [qk,q9,q7,q13,isL,getR,hI];rw [show (Int.ofNat (zdR l).length==(0:Int))=((zdR l).length==0) from ztE _ 0,zD2]
   have hx:(⟨4,⟨0,0⟩,[],fn,zdR l,op,b⟩:At)=zMW fn (zdR l) op b:=rfl;rw [hx,zAj (zMU hl hf hv).1 (by omega) (zMU hl hf hv).2]
   cases ((zdR l).length==0) with
   | false=>rfl
   | true=>
    obtain ⟨⟨_,_,o1,o2⟩,_⟩:=ztR hf;simp only [q9,qk,zoo,zbgF o1 o2,q7];cases fn==0 with
    | false=>rfl
    | true=>
     cases zMM op (zef 0 b.Int) <;>rfl
def zbgQ (t:Term):yB->yB
 | []=>[t]
 | x::r=>if cT x t=0 then ⟨ztv x.Cf t.Cf,t.Fs⟩::r else t::x::r
def zbgq (f:Fc):yC->yC
 | []=>[f]
 | x::r=>if cF x f=0 then (if f.At.Kind<3 then ⟨f.At,x.Exp+f.Exp⟩ else f)::r else f::x::r
theorem zbkn {t:Term} {l:yB} {k:Nat} (hk:k<l.length):zbgQ t (l.drop k)=if cT (l.getD k default) t=0 then ⟨ztv (l.getD k default).Cf t.Cf,t.Fs⟩::l.drop (k+1) else t::l.drop k:=by
 rw [zbd hk]; rfl
theorem zblB {f:Fc} {l:yC} {k:Nat} (hk:k<l.length):zbgq f (l.drop k)=if cF (l.getD k default) f=0 then (if f.At.Kind<3 then ⟨f.At,(l.getD k default).Exp+f.Exp⟩ else f)::l.drop (k+1) else f::l.drop k:=by
 rw [zbd hk]; rfl
theorem zbfo (t:Term):∀ l:yB,zhr t l=l.takeWhile (λx=>decide (cT x t<0))++zbgQ t (l.dropWhile (λx=>decide (cT x t<0)))
 | []=>rfl
 | x::r=>by
  rw [q34,List.dropWhile_cons];unfold zhr;by_cases h:cT x t<0
  ·simp only [h,if_true,decide_true,qo];rw [zbfo t r]
  ·simp only [h,if_false,decide_false,q1e,q10]; rfl
theorem zbe0 (f:Fc):∀ l:yC,zKy f l=l.takeWhile (λx=>decide (cF x f<0))++zbgq f (l.dropWhile (λx=>decide (cF x f<0)))
 | []=>rfl
 | x::r=>by
  rw [q34,List.dropWhile_cons];unfold zKy;by_cases h:cF x f<0
  ·simp only [h,if_true,decide_true,qo];rw [zbe0 f r]
  ·simp only [h,if_false,decide_false,q1e,q10]; rfl
theorem zbfJ {a b:Int} (ha:0<=a/\a<=1152921504606846976) (hb:0<=b/\b<=1152921504606846976):IntKind.i64.wrap (a+b)=a+b:=ze5 (by omega) (by omega)
theorem zbhd {τ:Type} (l:List τ) (p:τ->Bool):(l.takeWhile p).length<=l.length:=(List.takeWhile_prefix p).length_le
theorem zbmB (z:Int):(z==0)=decide (z=0):=zfi z 0
theorem zbeZ {d:Nat} (l:yB) (t:Term) (hl:l.length<=1000000) (h:∀ x∈l,zg2 (zq d) x.Fs) (hd:d<=99) (hc:∀ x∈l,cOK x) (ht:cOK t):zDY l t=(true,zhr t l):=by
 have hreach:zD=70368744177664:=rfl;unfold zDY z2m Wy.ix
 have hL:=zT1 (W:=zNR) (z:=default) l (λx=>decide (cT x t<0)) (λk=>(l,(),(k:Int),())) (λ_=>(t,())) (λk=>(l,(k:Int),t))
  (λk hk H K D=>by
   show (zz8 l k t).ev H K D=_;unfold zz8 Wy.ix;simp only [Wy.ev_i,Wy.ev_k,Wy.ev_h,Wy.ev_bn,Wy.ev_d,tT,hk,zsN (h _ (zm hk)) hd];rw [zu (by omega)]; rfl)
  (λH K D=>by
   show (zz8 l l.length t).ev H K D=_;unfold zz8 Wy.ix;simp only [Wy.ev_i,Wy.ev_k,tT,qr]) (l.length+Int.toNat (0:Int)+t.Fs.length+(1:Nat)) (by omega)
 have hL:zYZ (l.length+Int.toNat (0:Int)+t.Fs.length+(1:Nat)) l 0 t=_:=hL;rw [hL,z0N,zbfo];have q1:=zbhd l (λx=>decide (cT x t<0))
 have q2:=z0y (λx=>decide (cT x t<0)) l
 have q3:=z0z (λx=>decide (cT x t<0)) l
 generalize (l.takeWhile λx=>decide (cT x t<0)).length=k at q1 q2 q3 ⊢
 rw [<- q2, <- q3];have g1:(decide ((0:Int)<=(0:Int))&&decide ((0:Int)<=(k:Int))&&decide ((k:Int)<=Int.ofNat l.length))=true:=by simp only [qa,qb,qw]; omega
 have g2:decide ((0+(l.take k).length)*32<=zD)=true:=by simp only [qb,q15]; omega
 have g4:∀ m:Nat,decide (((l.take k).length+[(⟨0,[]⟩:Term)].length)*32<=zD)=true:=λm=>by simp only [qb,q15,qy]; omega
 simp only [Wy.fin_i,Wy.fin_k,Wy.fin_bn,q10,qt,z8I,zD9,g1,g2,q7];by_cases hk:k<l.length
 ·have g3:decide ((k:Int)<Int.ofNat l.length)=true:=by simp [hk]
  have g5:(decide ((0:Int)<=(k:Int))&&decide ((k:Int)<Int.ofNat l.length))=true:=by rw [g3]; simp
  have hm:=zm hk;simp only [g3,ze4,q13,q7,zsN (h _ hm) hd];rw [zbmB,zbkn hk];have gw:IntKind.i64.wrap ((k:Int)+1)=((k+1:Nat):Int):=zu (by omega)
  have gp:(zwZ (l.getD k default).Cf t.Cf).2=ztv (l.getD k default).Cf t.Cf:=by
   unfold zwZ zYY ztv;rw [Wy.fin_k,zbfJ ⟨by have:=(hc _ hm).1; omega,(hc _ hm).2⟩ ⟨by have:=ht.1; omega,ht.2⟩]
  have gk:(decide ((0:Int)<=(k:Int))&&decide ((k:Int)<=Int.ofNat l.length)&&decide (Int.ofNat l.length<=Int.ofNat l.length))=true:=by simp only [qa,qb,qw]; omega
  have gk':decide ((k:Int)<=Int.ofNat l.length)=true:=by simp only [qb,qw]; omega
  have gk1':decide (((k+1:Nat):Int)<=Int.ofNat l.length)=true:=by simp only [qb,qw]; omega
  have gk1:(decide ((0:Int)<=((k+1:Nat):Int))&&decide (((k+1:Nat):Int)<=Int.ofNat l.length)&&decide (Int.ofNat l.length<=Int.ofNat l.length))=true:=by simp only [qa,qb,qw]; omega
  have gb:∀ x:Term,decide (((l.take k).length+[x].length)*32<=zD)=true:=λx=>by simp only [qb,q15,qy]; omega
  have gc:∀ (x:Term) (m:Nat),decide (((l.take k++[x]).length+(l.drop m).length)*32<=zD)=true:=λx m=>by simp only [qb,q15,q2q,qf,qy]; omega
  by_cases hz:cT (l.getD k default) t=0
  ·have hz':zbx (zbD (l.getD k default).Fs) (zbD t.Fs)=0:=hz;simp only [hz,hz',if_true,decide_true,q7,gw,gp,ze4,q1j,gk1',Int.le_refl,decide_true,q7,q13,gb,gc,qt,zD9,qu,q2o]
  ·have hz':¬ zbx (zbD (l.getD k default).Fs) (zbD t.Fs)=0:=hz;simp only [hz,hz',if_false,decide_false,q9,q7,ze4,q1j,gk',Int.le_refl,decide_true,q7,q13,gb,gc,qu,q2o]
 ·have hk':k=l.length:=by omega
  have g3:decide ((k:Int)<Int.ofNat l.length)=false:=by simp [hk]
  have gk:(decide ((0:Int)<=(k:Int))&&decide ((k:Int)<=Int.ofNat l.length)&&decide (Int.ofNat l.length<=Int.ofNat l.length))=true:=by simp only [qa,qb,qw]; omega
  have gb:∀ x:Term,decide (((l.take k).length+[x].length)*32<=zD)=true:=λx=>by simp only [qb,q15,qy]; omega
  have gc:∀ (x:Term) (m:Nat),decide (((l.take k++[x]).length+(l.drop m).length)*32<=zD)=true:=λx m=>by simp only [qb,q15,q2q,qf,qy]; omega
  have gk':decide ((k:Int)<=Int.ofNat l.length)=true:=by simp only [qb,qw]; omega
  simp only [g3,ze4,q1j,gk',Int.le_refl,decide_true,q13,gb,gc,q7,q9];rw [zb2 hk];simp [zbgQ,zbgq]
theorem zbkW {d:Nat} (l:yC) (f:Fc) (hl:l.length<=1000000) (h:∀ x∈l,zdl (zq d) x.At) (hd:d<=99) (hc:∀ x∈l,0<=x.Exp/\x.Exp<=1000000) (ht:0<=f.Exp/\f.Exp<=1000000):zAi l f=(true,zKy f l):=by
 have hreach:zD=70368744177664:=rfl;unfold zAi zRR Wy.ix At.et
 have hL:=zT1 (W:=zFj) (z:=default) l (λx=>decide (cF x f<0)) (λk=>(l,(),(k:Int),())) (λ_=>(f,())) (λk=>(l,(k:Int),f))
  (λk hk H K D=>by
   show (ztm l k f).ev H K D=_;unfold ztm Wy.ix At.et;simp only [At.eta,Wy.ev_i,Wy.ev_k,Wy.ev_h,Wy.ev_bn,Wy.ev_d,tT,hk,zxd (h _ (zm hk)) hd];rw [zu (by omega)]; rfl)
  (λH K D=>by
   show (ztm l l.length f).ev H K D=_;unfold ztm Wy.ix At.et;simp only [Wy.ev_i,Wy.ev_k,tT,qr]) (l.length+Int.toNat (0:Int)+f.At.Ag.length+f.At.Items.length+(1:Nat)) (by omega)
 have hL:zPh (l.length+Int.toNat (0:Int)+f.At.Ag.length+f.At.Items.length+(1:Nat)) l 0 f=_:=hL;rw [At.eta,show (FO.mk f.At f.Exp:Fc)=f from rfl,hL,z0N,zbe0]
 have q1:=zbhd l (λx=>decide (cF x f<0))
 have q2:=z0y (λx=>decide (cF x f<0)) l
 have q3:=z0z (λx=>decide (cF x f<0)) l
 generalize (l.takeWhile λx=>decide (cF x f<0)).length=k at q1 q2 q3 ⊢
 rw [<- q2, <- q3];have g1:(decide ((0:Int)<=(0:Int))&&decide ((0:Int)<=(k:Int))&&decide ((k:Int)<=Int.ofNat l.length))=true:=by simp only [qa,qb,qw]; omega
 have g2:decide ((0+(l.take k).length)*128<=zD)=true:=by simp only [qb,q15]; omega
 have gb:∀ x:Fc,decide (((l.take k).length+[x].length)*128<=zD)=true:=λx=>by simp only [qb,q15,qy]; omega
 have gc:∀ (x:Fc) (m:Nat),decide (((l.take k++[x]).length+(l.drop m).length)*128<=zD)=true:=λx m=>by simp only [qb,q15,q2q,qf,qy]; omega
 have gk:(decide ((0:Int)<=(k:Int))&&decide ((k:Int)<=Int.ofNat l.length)&&decide (Int.ofNat l.length<=Int.ofNat l.length))=true:=by simp only [qa,qb,qw]; omega
 have ef:(FO.mk f.At f.Exp:Fc)=f:=rfl;simp only [At.eta,ef,Wy.fin_i,Wy.fin_k,Wy.fin_bn,q10,qt,z8I,zD9,g1,g2,q7];by_cases hk:k<l.length
 ·have g3:decide ((k:Int)<Int.ofNat l.length)=true:=by simp [hk]
  have g5:(decide ((0:Int)<=(k:Int))&&decide ((k:Int)<Int.ofNat l.length))=true:=by rw [g3]; simp
  have hm:=zm hk;simp only [g3,ze4,q13,q7,zxd (h _ hm) hd];rw [zbmB,zblB hk];have gw:IntKind.i64.wrap ((k:Int)+1)=((k+1:Nat):Int):=zu (by omega)
  have gp:IntKind.i64.wrap ((l.getD k default).Exp+f.Exp)=(l.getD k default).Exp+f.Exp:=by have:=hc _ hm; exact ze5 (by omega) (by omega)
  have gk':decide ((k:Int)<=Int.ofNat l.length)=true:=by simp only [qb,qw]; omega
  have gk1':decide (((k+1:Nat):Int)<=Int.ofNat l.length)=true:=by simp only [qb,qw]; omega
  have gk1:(decide ((0:Int)<=((k+1:Nat):Int))&&decide (((k+1:Nat):Int)<=Int.ofNat l.length)&&decide (Int.ofNat l.length<=Int.ofNat l.length))=true:=by simp only [qa,qb,qw]; omega
  by_cases hz:cF (l.getD k default) f=0
  ·have hz':zbe (zec (l.getD k default).At) (zec f.At)=0:=hz;by_cases hk3:f.At.Kind<3
   ·simp only [hz,hz',hk3,if_true,decide_true,q7,gw,gp,ze4,q1j,gk1',Int.le_refl,decide_true,q7,q13,gb,gc,qt,zD9,qu,q2o]
   ·simp only [hz,hz',hk3,if_true,if_false,decide_true,decide_false,q7,q9,gw,gp,ze4,q1j,gk1',Int.le_refl,decide_true,q7,q13,gb,gc,qt,zD9,qu,q2o]
  ·have hz':¬ zbe (zec (l.getD k default).At) (zec f.At)=0:=hz;simp only [hz,hz',if_false,decide_false,q9,q7,ze4,q1j,gk',Int.le_refl,decide_true,q7,q13,gb,gc,qu,q2o]
 ·have g3:decide ((k:Int)<Int.ofNat l.length)=false:=by simp [hk]
  have gk':decide ((k:Int)<=Int.ofNat l.length)=true:=by simp only [qb,qw]; omega
  simp only [g3,ze4,q1j,gk',Int.le_refl,decide_true,q13,gb,gc,q7,q9];rw [zb2 hk];simp [zbgQ,zbgq]
theorem zbm1 (n:Nat) (h:n<=4000000):zd7 (n:Int)=(true,[]):=by
 have hreach:zD=70368744177664:=rfl;unfold zd7 zm6;have e0:IntKind.i64.wrap ((0:Int) - 0)=0:=rfl;have e1:IntKind.i64.wrap ((n:Int) - 0)=(n:Int):=by rw [ze5 (by omega) (by omega)]; omega
 have e2:decide ((n:Int)<0)=false:=qd (by omega)
 rw [Wy.fin_i,e2,q9,e0,e1];by_cases hn:(n:Int)>0
 ·have e3:(true&&(decide ((n:Int)*Int.ofNat (32:Nat)<=Int.ofNat zD)&&(decide ((n:Int)<=Int.ofNat zD)&& !Nat.beq (2:Nat) (0:Nat))))=true:=by
   simp only [qa,qb,qw];exact ⟨trivial,by rw [hreach]; omega,by rw [hreach]; omega,rfl⟩
  rw [Wy.fin_i,qg hn,q7,Wy.fin_i,e3,q7,Wy.fin_k];simp
 ·rw [Wy.fin_i,qd hn]; rfl
theorem zbix (ls:yA) (hn:ls.length<=10) (h:∀ l∈ls,l.length<=300000):zdL ls=(true,ls.flatten):=by
 have hreach:zD=70368744177664:=rfl;unfold zdL zlZ;have e:∀ l:yB,l∈ls->l.length<=300000:=h
 have h1:=zcL (W:=zgv) (z:=default) (l:=ls) (λi (n:Nat)=>(ls,(n:Int),ls,(ls.length:Int),(i:Int),())) (λ_ _=>()) (λy n=>.inl (n+y.length)) (λn=>(ls,(n:Int))) (λi n=>n<=i*300000)
  (λi n hi hI=>.inl ⟨_,rfl,by have:=e _ (zm hi); omega,λH K D=>by
   show (zde ls n ls ls.length i).ev H K D=_;unfold zde Wy.ix;have hle:=e _ (zm hi);have hw:IntKind.i64.wrap ((n:Int)+((ls.getD i default).length:Int))=((n+(ls.getD i default).length:Nat):Int):=zmO (by omega)
   simp only [Wy.ev_i,Wy.ev_k,Wy.ev_h,Wy.ev_bn,Wy.ev_d,tT,hi,hw];have h0:decide (((n+(ls.getD i default).length:Nat):Int)<0)=false:=qd (by omega)
   rw [h0,zu (by omega)]; rfl⟩)
  (λn hI H K D=>by
   show (zde ls n ls ls.length ls.length).ev H K D=_;unfold zde Wy.ix;simp only [Wy.ev_i,Wy.ev_k,tT,qr]) (ls.length+Int.toNat (0:Int)+ls.length+(Int.ofNat ls.length).toNat +Int.toNat (0:Int)+(1:Nat)) 0 0 (by omega) (by omega) (by omega)
 rw [qq,zcN] at h1;have h1:zlw (ls.length+Int.toNat (0:Int)+ls.length+(Int.ofNat ls.length).toNat +Int.toNat (0:Int)+(1:Nat)) ls 0 ls (Int.ofNat ls.length) 0=_:=h1
 have hb:∀ (r:yA) (n:Nat),(∀ l∈r,l.length<=300000)->r.foldl (λn (y:yB)=>n+y.length) n<=n+r.length*300000:=λr=>by
  induction r with
  | nil=>intro n _; simp
  | cons y r ih=>
   intro n hr;have q1:=ih (n+y.length) λl hl=>hr l (by simp [hl])
   have q2:=hr y (by simp)
   rw [q11,qc]; omega
 have hsz:=hb ls 0 h
 have h2:=zcL (W:=zgf) (z:=default) (l:=ls) (λi (out:yB)=>((),ls,(ls.length:Int),(i:Int),())) (λ_ out=>(out,())) (λy out=>.inl (out++y)) (λout=>out) (λi out=>out.length<=i*300000)
  (λi out hi hI=>.inl ⟨_,rfl,by have:=e _ (zm hi); simp only [qf]; omega,λH K D=>by
   show (zc5 ls ls.length i out).ev H K D=_;unfold zc5 Wy.ix;have hle:=e _ (zm hi);have hr:decide ((out.length+(ls.getD i default).length)*32<=zD)=true:=by simp only [qb]; omega
   simp only [Wy.ev_i,Wy.ev_k,Wy.ev_h,Wy.ev_bn,Wy.ev_d,tT,hi,hr];rw [zu (by omega)]⟩)
  (λout hI H K D=>by
   show (zc5 ls ls.length ls.length out).ev H K D=_;unfold zc5 Wy.ix;simp only [Wy.ev_i,Wy.ev_k,tT,qr]) (ls.length+(Int.ofNat ls.length).toNat +Int.toNat (0:Int)+([]:yB).length+(1:Nat)) 0 [] (by omega) (by omega) (by simp)
 rw [qq,zcN] at h2;have h2:zk0 (ls.length+(Int.ofNat ls.length).toNat +Int.toNat (0:Int)+([]:yB).length+(1:Nat)) ls (Int.ofNat ls.length) 0 []=_:=h2
 have hf:∀ (r:yA) (out:yB),r.foldl (λout y=>out++y) out=out++r.flatten:=λr=>by
  induction r with
  | nil=>intro out; simp
  | cons y r ih=>intro out; rw [q11,ih,List.flatten_cons,qu]
 rw [Wy.fin_bn,h1,q7];simp only [Wy.fin_bn,zbm1 _ (show ls.foldl (λn (y:yB)=>n+y.length) 0<=4000000 by have:=q1z hn (qn 300000); omega),q7,h2,Wy.fin_k]
 rw [hf]; simp
theorem zbmA (n:Nat) (h:n<=4000000):zen (n:Int)=(true,[]):=by
 have hreach:zD=70368744177664:=rfl;unfold zen znu;have e0:IntKind.i64.wrap ((0:Int) - 0)=0:=rfl;have e1:IntKind.i64.wrap ((n:Int) - 0)=(n:Int):=by rw [ze5 (by omega) (by omega)]; omega
 have e2:decide ((n:Int)<0)=false:=qd (by omega)
 rw [Wy.fin_i,e2,q9,e0,e1];by_cases hn:(n:Int)>0
 ·have e3:(true&&(decide ((n:Int)*Int.ofNat (128:Nat)<=Int.ofNat zD)&&(decide ((n:Int)<=Int.ofNat zD)&& !Nat.beq (11:Nat) (0:Nat))))=true:=by
   simp only [qa,qb,qw];exact ⟨trivial,by rw [hreach]; omega,by rw [hreach]; omega,rfl⟩
  rw [Wy.fin_i,qg hn,q7,Wy.fin_i,e3,q7,Wy.fin_k];simp
 ·rw [Wy.fin_i,qd hn]; rfl
theorem zbiA (ls:List (yC)) (hn:ls.length<=10) (h:∀ l∈ls,l.length<=300000):zdV ls=(true,ls.flatten):=by
 have hreach:zD=70368744177664:=rfl;unfold zdV zmx;have e:∀ l:yC,l∈ls->l.length<=300000:=h
 have h1:=zcL (W:=zgZ) (z:=default) (l:=ls) (λi (n:Nat)=>(ls,(n:Int),ls,(ls.length:Int),(i:Int),())) (λ_ _=>()) (λy n=>.inl (n+y.length)) (λn=>(ls,(n:Int))) (λi n=>n<=i*300000)
  (λi n hi hI=>.inl ⟨_,rfl,by have:=e _ (zm hi); omega,λH K D=>by
   show (zdk ls n ls ls.length i).ev H K D=_;unfold zdk Wy.ix;have hle:=e _ (zm hi);have hw:IntKind.i64.wrap ((n:Int)+((ls.getD i default).length:Int))=((n+(ls.getD i default).length:Nat):Int):=zmO (by omega)
   simp only [Wy.ev_i,Wy.ev_k,Wy.ev_h,Wy.ev_bn,Wy.ev_d,tT,hi,hw];have h0:decide (((n+(ls.getD i default).length:Nat):Int)<0)=false:=qd (by omega)
   rw [h0,zu (by omega)]; rfl⟩)
  (λn hI H K D=>by
   show (zdk ls n ls ls.length ls.length).ev H K D=_;unfold zdk Wy.ix;simp only [Wy.ev_i,Wy.ev_k,tT,qr]) (ls.length+Int.toNat (0:Int)+ls.length+(Int.ofNat ls.length).toNat +Int.toNat (0:Int)+(1:Nat)) 0 0 (by omega) (by omega) (by omega)
 rw [qq,zcN] at h1;have h1:zl0 (ls.length+Int.toNat (0:Int)+ls.length+(Int.ofNat ls.length).toNat +Int.toNat (0:Int)+(1:Nat)) ls 0 ls (Int.ofNat ls.length) 0=_:=h1
 have hb:∀ (r:List (yC)) (n:Nat),(∀ l∈r,l.length<=300000)->r.foldl (λn (y:yC)=>n+y.length) n<=n+r.length*300000:=λr=>by
  induction r with
  | nil=>intro n _; simp
  | cons y r ih=>
   intro n hr;have q1:=ih (n+y.length) λl hl=>hr l (by simp [hl])
   have q2:=hr y (by simp)
   rw [q11,qc]; omega
 have hsz:=hb ls 0 h
 have h2:=zcL (W:=zgE) (z:=default) (l:=ls) (λi (out:yC)=>((),ls,(ls.length:Int),(i:Int),())) (λ_ out=>(out,())) (λy out=>.inl (out++y)) (λout=>out) (λi out=>out.length<=i*300000)
  (λi out hi hI=>.inl ⟨_,rfl,by have:=e _ (zm hi); simp only [qf]; omega,λH K D=>by
   show (zdc ls ls.length i out).ev H K D=_;unfold zdc Wy.ix;have hle:=e _ (zm hi);have hr:decide ((out.length+(ls.getD i default).length)*128<=zD)=true:=by simp only [qb]; omega
   simp only [Wy.ev_i,Wy.ev_k,Wy.ev_h,Wy.ev_bn,Wy.ev_d,tT,hi,hr];rw [zu (by omega)]⟩)
  (λout hI H K D=>by
   show (zdc ls ls.length ls.length out).ev H K D=_;unfold zdc Wy.ix;simp only [Wy.ev_i,Wy.ev_k,tT,qr]) (ls.length+(Int.ofNat ls.length).toNat +Int.toNat (0:Int)+([]:yC).length+(1:Nat)) 0 [] (by omega) (by omega) (by simp)
 rw [qq,zcN] at h2;have h2:zlD (ls.length+(Int.ofNat ls.length).toNat +Int.toNat (0:Int)+([]:yC).length+(1:Nat)) ls (Int.ofNat ls.length) 0 []=_:=h2
 have hf:∀ (r:List (yC)) (out:yC),r.foldl (λout y=>out++y) out=out++r.flatten:=λr=>by
  induction r with
  | nil=>intro out; simp
  | cons y r ih=>intro out; rw [q11,ih,List.flatten_cons,qu]
 rw [Wy.fin_bn,h1,q7];simp only [Wy.fin_bn,zbmA _ (show ls.foldl (λn (y:yC)=>n+y.length) 0<=4000000 by have:=q1z hn (qn 300000); omega),q7,h2,Wy.fin_k]
 rw [hf]; simp
theorem zIk {d:Nat} (hd:d<=99):∀ (n:Nat) (a b out:yC),a.length+b.length<n->a.length+b.length+out.length<=1000000->(∀ x∈a,zdl (zq d) x.At/\0<=x.Exp/\x.Exp<=1000000)->(∀ x∈b,0<=x.Exp/\x.Exp<=1000000)->
  ∃ a' b' out',zz5 n a b out=(true,(a',b',out'))/\out'++(a'++b')=out++zbn a b/\a'.length<=a.length/\b'.length<=b.length/\out'.length<=out.length+a.length+b.length
 | 0,a,b,out,h,_,_,_=>by omega
 | n+1,a,b,out,h,hl,ha,hb=>by
  have hreach:zD=70368744177664:=rfl;show ∃ a' b' out',(zzv a b out).ev (λx y=>zz5 n x.1 x.2.1 y.1) (λr=>(true,r)) (false,default)=_/\_
  unfold zzv Wy.ix At.et
  match a,b,h,hl,ha,hb with
  | [],b,h,hl,ha,hb=>exact ⟨[],b,out,rfl,by rw [zbn]; simp,qn _,qn _,by omega⟩
  | x::a,[],h,hl,ha,hb=>
   have e1:decide (Int.ofNat (x::a).length>0)=true:=by simp
   refine ⟨x::a,[],out, ?_,by rw [zbn]; simp,qn _,qn _,by omega⟩
   rw [Wy.ev_i,e1,q7]; rfl
  | x::a,y::b,h,hl,ha,hb=>
   have hx:=ha x (by simp)
   have hy:=hb y (by simp)
   simp only [qc] at h hl;have e1:decide (Int.ofNat (x::a).length>0)=true:=by simp
   have e2:decide (Int.ofNat (y::b).length>0)=true:=by simp
   have e3:(decide ((0:Int)<=0)&&decide ((0:Int)<Int.ofNat (x::a).length))=true:=by simp
   have e4:(decide ((0:Int)<=0)&&decide ((0:Int)<Int.ofNat (y::b).length))=true:=by simp
   have e5:(x::a).getD (Int.toNat 0) default=x:=rfl;have e6:(y::b).getD (Int.toNat 0) default=y:=rfl;have e7:∀ z:Fc,decide ((out.length+[z].length)*128<=zD)=true:=λz=>by simp only [qb,qy]; omega
   have e8:(decide ((0:Int)<=1)&&decide ((1:Int)<=Int.ofNat (x::a).length)&&decide (Int.ofNat (x::a).length<=Int.ofNat (x::a).length))=true:=by simp; omega
   have e9:(decide ((0:Int)<=1)&&decide ((1:Int)<=Int.ofNat (y::b).length)&&decide (Int.ofNat (y::b).length<=Int.ofNat (y::b).length))=true:=by simp; omega
   have e10:List.take ((Int.ofNat (x::a).length).toNat - Int.toNat 1) (List.drop (Int.toNat 1) (x::a))=a:=by rw [show Int.toNat 1=1 from rfl,zD9]; rfl
   have e11:List.take ((Int.ofNat (y::b).length).toNat - Int.toNat 1) (List.drop (Int.toNat 1) (y::b))=b:=by rw [show Int.toNat 1=1 from rfl,zD9]; rfl
   have ea:∀ z∈a,zdl (zq d) z.At/\0<=z.Exp/\z.Exp<=1000000:=λz hz=>ha z (by simp [hz])
   have eb:∀ z∈b,0<=z.Exp/\z.Exp<=1000000:=λz hz=>hb z (by simp [hz])
   have ex:(FO.mk x.At x.Exp:Fc)=x:=rfl;have ey:(FO.mk y.At y.Exp:Fc)=y:=rfl;simp only [Wy.ev_i,Wy.ev_k,Wy.ev_h,Wy.ev_bn,Wy.ev_d,e1,e2,e3,e4,e5,e6,e7,e8,e9,e10,e11,q7,At.eta,zxG hx.1 hd,z73,ex,ey];rw [zbn];have hcf:cF x y=zbe (zec x.At) (zec y.At):=rfl;rw [<- hcf];by_cases h1:cF x y<0
   ·simp only [h1,decide_true,q7,if_true];obtain ⟨a',b',out',r1,r2,r3,r4,r5⟩:=zIk hd n a (y::b) (out++[x]) (by simp only [qc]; omega) (by simp only [qc,qf,qv]; omega) ea hb
    refine ⟨a',b',out',r1,by rw [r2]; simp,by simp only [qc]; omega,by simpa using r4,by simp only [qc,qf,qv] at r5 ⊢; omega⟩
   ·by_cases h2:0<cF x y
    ·have h2':cF x y>0:=h2;simp only [h1,h2,h2',decide_true,decide_false,q7,q9,if_true,if_false];obtain ⟨a',b',out',r1,r2,r3,r4,r5⟩:=zIk hd n (x::a) b (out++[y]) (by simp only [qc]; omega) (by simp only [qc,qf,qv]; omega) ha eb
     refine ⟨a',b',out',r1,by rw [r2]; simp,by simpa using r3,by simp only [qc]; omega,by simp only [qc,qf,qv] at r5 ⊢; omega⟩
    ·have h2':¬ cF x y>0:=h2;have hw:IntKind.i64.wrap (x.Exp+y.Exp)=x.Exp+y.Exp:=ze5 (by omega) (by omega)
     simp only [h1,h2,h2',decide_false,q9,if_false,hw];have hk:(x.At.Kind==3||x.At.Kind==4)=decide (x.At.Kind=3\/x.At.Kind=4):=by rw [zfi,zfi, <- Bool.decide_or]
     rw [hk];by_cases h3:x.At.Kind=3\/x.At.Kind=4
     ·simp only [h3,decide_true,qk,q9,if_true];obtain ⟨a',b',out',r1,r2,r3,r4,r5⟩:=zIk hd n a b (out++[x]) (by omega) (by simp only [qf,qc,qv]; omega) ea eb
      refine ⟨a',b',out',r1,by rw [r2]; simp,by simp only [qc]; omega,by simp only [qc]; omega,by simp only [qc,qf,qv] at r5 ⊢; omega⟩
     ·simp only [h3,decide_false,q1k,q7,if_false];obtain ⟨a',b',out',r1,r2,r3,r4,r5⟩:=zIk hd n a b (out++[⟨x.At,x.Exp+y.Exp⟩]) (by omega) (by simp only [qf,qc,qv]; omega) ea eb
      refine ⟨a',b',out',r1,by rw [r2]; simp,by simp only [qc]; omega,by simp only [qc]; omega,by simp only [qc,qf,qv] at r5 ⊢; omega⟩
theorem zbkL {d:Nat} (hd:d<=99) (a b:yC) (hl:a.length+b.length<=100000) (ha:∀ x∈a,zdl (zq d) x.At/\0<=x.Exp/\x.Exp<=1000000) (hb:∀ x∈b,0<=x.Exp/\x.Exp<=1000000):zon a b=(true,zbn a b):=by
 unfold zon zKG;obtain ⟨a',b',out',r1,r2,r3,r4,r5⟩:=zIk hd (a.length+b.length+(0:Nat)+(1:Nat)) a b [] (by omega) (by simp; omega) ha hb
 rw [Wy.fin_bn,r1,q7]
 have hc:=zbiA [out',a',b'] (by simp) (λl hl'=>by
  simp only [q8,q16,or_false] at hl';simp only [qv] at r5;rcases hl' with rfl | rfl | rfl <;>omega)
 simp only [Wy.fin_bn,hc,q7,Wy.fin_k];congr 1
 simpa using r2
theorem zbcg {a b:Int} (ha:1<=a/\a<=1152921504606846976) (hb:1<=b/\b<=1152921504606846976):zrH a b=(true,zvn a b)/\zB3 a b=(true,zvn a b):=by
 obtain ⟨h1,h2⟩:=zLc ha hb;have h0:(!decide (b=(0:Int)))=true:=by rw [qd (by omega)]; rfl
 have hq:0<=Int.tdiv 1152921504606846976 b/\Int.tdiv 1152921504606846976 b<=1152921504606846976:=by
  rw [Int.tdiv_eq_ediv_of_nonneg (by omega)]
  exact ⟨Int.ediv_nonneg (by omega) (by omega),Int.ediv_le_self _ (by omega)⟩
 have hw:IntKind.i64.wrap (Int.tdiv 1152921504606846976 b)=Int.tdiv 1152921504606846976 b:=ze5 (by omega) (by omega)
 have key:∀ w:Int,(w=if Int.tdiv 1152921504606846976 b<a then 1152921504606846976 else IntKind.i64.wrap (a*b))->w=zvn a b:=λw e=>by
  rw [e]; unfold zvn;split
  ·rfl
  ·rename_i hn;have h3:=h2 hn;have h4:=Int.mul_nonneg (show 0<=a by omega) (show 0<=b by omega)
   exact ze5 (by omega) (by omega)
 constructor
 ·unfold zrH zIV;rw [Wy.fin_i,h0,q7,Wy.fin_i,hw,Wy.fin_k,Wy.fin_k];by_cases hc:Int.tdiv 1152921504606846976 b<a
  ·rw [qg hc,q7]; exact congrArg (Prod.mk true) (key _ (by rw [if_pos hc]))
  ·rw [qd hc,q9]; exact congrArg (Prod.mk true) (key _ (by rw [if_neg hc]))
 ·unfold zB3 zVV;rw [Wy.fin_i,h0,q7,Wy.fin_i,hw,Wy.fin_k,Wy.fin_k];by_cases hc:Int.tdiv 1152921504606846976 b<a
  ·rw [qg hc,q7]; exact congrArg (Prod.mk true) (key _ (by rw [if_pos hc]))
  ·rw [qd hc,q9]; exact congrArg (Prod.mk true) (key _ (by rw [if_neg hc]))
theorem zvk {τ:Type} [Inhabited τ] {R:τ->τ->Prop} (ht:∀ x y z,R x y->R y z->R x z):∀ l:List τ,(∀ k,0<k->k<l.length->R (l.getD (k - 1) default) (l.getD k default))->l.Pairwise R
 | [],_=>.nil
 | [x],_=>by simp
 | x::y::r,h=>by
  have h1:R x y:=h 1 (by omega) (by simp)
  have h2:=zvk ht (y::r) λk hk hl=>by
   have:=h (k+1) (by omega) (by simpa using hl)
   obtain ⟨j,rfl⟩:∃ j,k=j+1:=⟨k - 1,by omega⟩
   exact this
  refine qh.2 ⟨λz hz=> ?_,h2⟩
  rcases q8.1 hz with rfl | hz
  ·exact h1
  ·exact ht x y z h1 ((qh.1 h2).1 z hz)
def GF (f:Fc):Prop:=(zdj (zbi 9) f.At=true/\zgn f.At/\f.At.Items.length<=1024)/\1<=f.Exp/\f.Exp<=1000000
def GT (t:Term):Prop:=cOK t/\t.Fs.length<=1000/\∀ f∈t.Fs,GF f
def VT (t:Term):Prop:=GT t/\Srf t.Fs/\t.Fs.length<=64/\∀ f∈t.Fs,eOK f/\f.Exp<=64
theorem zo0 {a:yB} (h:zx a=true) (hw:zgz a):Srs a/\a.length<=512/\∀ t∈a,VT t:=by
 have h9:=zHx h (qn 9);rw [z6E] at h;obtain ⟨w1,w2,w3,w4⟩:=ztG (zH7 h);have hall:=h;simp only [zvm,qa] at hall;refine ⟨zvk (R:=λx y=>cT x y<0) (λx y z h1 h2=>zNo h1 h2) a λk hk hl=> ?_,w1,λt ht=> ?_⟩
 ·have:=zdU.1 hall.2 k (by omega) (by omega)
  simp only [zFL,qa,q1w,qb] at this;rcases this.1.2 with e | e
  ·omega
  ·exact e
 ·obtain ⟨hc,hok⟩:=zwm h ht;obtain ⟨l1,l2⟩:=w4 t ht;have hwt:=zlT (ztI (zqG hw t ht)).2.1;refine ⟨⟨hc,by omega,λf hf=> ?_⟩,zvk (R:=λx y=>cF x y<0) (λx y z h1 h2=>zzY h1 h2) _ λk hk hl=> ?_,l1,λf hf=> ?_⟩
  ·obtain ⟨⟨e1,_⟩,hv⟩:=zqo hok hf;exact ⟨⟨by rw [zbhH (qn 9)]; exact hv,(znH (hwt f hf)).1,(l2 f hf).2⟩,e1,by have:=(l2 f hf).1; omega⟩
  ·have:=zdU.1 hok k (by omega) (by omega)
   simp only [zQ1,qa,q1w,qb] at this;rcases this.1.2 with e | e
   ·omega
   ·exact e
  ·obtain ⟨⟨_,e2⟩,hv⟩:=zqo hok hf;exact ⟨⟨zAr hv,e2⟩,(l2 f hf).1⟩
theorem znp {m:Nat} {x:At} (h:zdj (zbi m) x=true) (hi:x.Items.length<=1024):zdl (zq 9) x:=by
 cases zcZ.1 h with
 | var r h=>exact ⟨⟨by simp,by simp,by show (ByteArray.mk #[]).size<=_; decide⟩,λa ha=>(by cases ha),λw hw=>(by cases hw)⟩
 | mon b c hb hc _ _ _=>
  refine ⟨⟨by simp,by simp,by show (ByteArray.mk #[]).size<=_; decide⟩,λy hy=> ?_,λw hw=>(by cases hw)⟩
  simp only [q8,q16,or_false] at hy;rcases hy with rfl | rfl
  ·exact (zeM hb).1
  ·exact (zeM hc).1
 | del b hb _ _ _=>
  refine ⟨⟨by simp,by simp,by show (ByteArray.mk #[]).size<=_; decide⟩,λy hy=> ?_,λw hw=>(by cases hw)⟩
  rw [qj] at hy; subst hy; exact (zeM hb).1
 | abs b hb _ _=>
  refine ⟨⟨by simp,by simp,by show (ByteArray.mk #[]).size<=_; decide⟩,λy hy=> ?_,λw hw=>(by cases hw)⟩
  rw [qj] at hy; subst hy; exact (zeM hb).1
 | tst f l o b hl hv hs hf=>
  obtain ⟨_,hb,hit⟩:=ztR hf;simp only at hi;exact ⟨⟨by simp,by simp only; omega,by have:=zww hb; simp only; omega⟩,λa ha=>(by cases ha),λw hw=>⟨by have:=zww (hit w hw).1; omega,(zeM (hv w hw).1).1⟩⟩
theorem GT.fine {t:Term} (h:GT t):zg2 (zq 9) t.Fs:=⟨by have:=h.2.1; omega,λf hf=>znp (h.2.2 f hf).1.1 (h.2.2 f hf).1.2.2⟩
theorem GF.gF {f:Fc} (h:GF f):gF (zbi 9) f:=⟨h.1.1,h.1.2.1,by constructor <;>(have:=h.2; omega)⟩
theorem GT.text {t:Term} (h:GT t):zrf t.Fs=(true,bs (txL t.Fs)):=
 (zbdr 1000).2.2 9 t.Fs h.2.1 (λf hf=>⟨(h.2.2 f hf).1.1,(h.2.2 f hf).1.2.1,(h.2.2 f hf).1.2.2,(h.2.2 f hf).gF.2.2⟩) (by omega)
theorem GT.inj {s t:Term} (hs:GT s) (ht:GT t) (h:bs (txL s.Fs)=bs (txL t.Fs)):s.Fs=t.Fs:=
 zblm (λf hf=>(hs.2.2 f hf).gF) (λf hf=>(ht.2.2 f hf).gF) (zbmf h)
def zp2:Int->yB->List (Go.Value×Int)
 | _,[]=>[]
 | i,t::r=>(.string (bs (txL t.Fs)),i)::zp2 (i+1) r
def zKw (k:ByteArray):yB->Option Nat
 | []=>none
 | t::r=>if k=bs (txL t.Fs) then some 0 else (zKw k r).map (· +1)
theorem zPY (k:ByteArray) (t:Term) (r:yB):zKw k (t::r)=if k=bs (txL t.Fs) then some 0 else (zKw k r).map (· +1):=rfl
theorem zbit (a b:ByteArray):zmo (.string a) (.string b)=decide (a=b):=by
 cases a with | mk x=>cases b with | mk y=>
 show (x==y)=_;by_cases h:x=y
 ·subst h; simp
 ·have:(x==y)=false:=by rw [q22]; exact h
  rw [this]; simp [h]
theorem zbc1 (k:ByteArray):∀ (o:yB) (i:Int),zbgH (.string k) (zp2 i o)=(zKw k o).isSome
 | [],i=>rfl
 | t::r,i=>by
  show (bif zmo (.string k) (.string (bs (txL t.Fs))) then true else zbgH (.string k) (zp2 (i+1) r))=_
  rw [zbit,zbc1 k r,zPY];by_cases h:k=bs (txL t.Fs)
  ·rw [qg h,if_pos h]; rfl
  ·rw [qd h,if_neg h]; cases zKw k r <;>rfl
theorem zbdh (k:ByteArray):∀ (o:yB) (i:Int),zLt (.string k) (zp2 i o)=(zKw k o).map λj:Nat=>i+(j:Int)
 | [],i=>rfl
 | t::r,i=>by
  show (bif zmo (.string k) (.string (bs (txL t.Fs))) then some i else zLt (.string k) (zp2 (i+1) r))=_
  rw [zbit,zbdh k r,zPY];by_cases h:k=bs (txL t.Fs)
  ·rw [qg h,if_pos h]; simp
  ·rw [qd h,if_neg h];cases zKw k r with
   | none=>rfl
   | some j=>
    have e:i+1+(j:Int)=i+((j+1:Nat):Int):=by omega
    simp only [q9,qz,e]
theorem zbdY (k:ByteArray) (x:Int):∀ (o:yB) (i:Int),zKw k o=none->zbgS (.string k) x (zp2 i o)=zp2 i o++[(.string k,x)]
 | [],i,_=>rfl
 | t::r,i,h=>by
  rw [zPY] at h;by_cases hk:k=bs (txL t.Fs)
  ·rw [if_pos hk] at h; cases h
  ·rw [if_neg hk] at h;show (bif zmo (.string k) (.string (bs (txL t.Fs))) then _ else (.string (bs (txL t.Fs)),i)::zbgS (.string k) x (zp2 (i+1) r))=_
   rw [zbit,qd hk,zbdY k x r (i+1) (by cases hp:zKw k r with | none=>rfl | some j=>rw [hp] at h; cases h)]
   rfl
theorem z90 (t:Term):∀ (o:yB) (i:Int),zp2 i (o++[t])=zp2 i o++[(.string (bs (txL t.Fs)),i+(o.length:Int))]
 | [],i=>by simp [zp2]
 | x::r,i=>by
  have e:i+1+(r.length:Int)=i+((r.length+1:Nat):Int):=by omega
  simp only [qo,zp2,qc,z90 t r,e]
theorem z96 (y:Term):∀ (o:yB) (j:Nat) (i:Int),(o.getD j default).Fs=y.Fs->zp2 i (o.set j y)=zp2 i o
 | [],j,i,_=>rfl
 | x::r,0,i,h=>by simp only [List.set_cons_zero,zp2]; rw [show x.Fs=y.Fs from h]
 | x::r,j+1,i,h=>by simp only [List.set_cons_succ,zp2]; rw [z96 y r j (i+1) h]
theorem zbeV {t:Term} (ht:GT t):∀ {o:yB},(∀ x∈o,GT x)->(match zKw (bs (txL t.Fs)) o with
  | some j=>j<o.length/\(o.getD j default).Fs=t.Fs/\znN t o=o.set j ⟨ztv (o.getD j default).Cf t.Cf,(o.getD j default).Fs⟩
  | none=>znN t o=o++[t])
 | [],_=>rfl
 | x::r,h=>by
  have ih:=zbeV ht (o:=r) λy hy=>h y (by simp [hy])
  rw [zPY];unfold znN;by_cases hk:bs (txL t.Fs)=bs (txL x.Fs)
  ·have e:=GT.inj ht (h x (by simp)) hk
   rw [if_pos hk,if_pos e.symm];exact ⟨by simp,e.symm,rfl⟩
  ·have e:¬ x.Fs=t.Fs:=λe=>hk (by rw [e])
   rw [if_neg hk,if_neg e];cases hp:zKw (bs (txL t.Fs)) r with
   | none=>rw [hp] at ih; simp only [Option.map_none]; rw [ih]; rfl
   | some j=>
    rw [hp] at ih;obtain ⟨i1,i2,i3⟩:=ih;simp only [qz];exact ⟨by simp; exact i1,i2,by rw [i3]; rfl⟩
theorem zbhn {t:Term} (ht:GT t) {o:yB} (ho:∀ x∈o,GT x):∀ x∈znN t o,GT x:=by
 induction o with
 | nil=>intro x hx; simp only [znN,qj] at hx; subst hx; exact ht
 | cons y r ih=>
  intro x hx;unfold znN at hx;split at hx
  ·rcases q8.1 hx with rfl | hx
   ·have:=ho y (by simp)
    exact ⟨z9w this.1.1 ht.1.1,this.2⟩
   ·exact ho x (by simp [hx])
  ·rcases q8.1 hx with rfl | hx
   ·exact ho x (by simp)
   ·exact ih (λz hz=>ho z (by simp [hz])) x hx
theorem z7D (t:Term):∀ o:yB,(znN t o).length<=o.length+1
 | []=>by simp [znN]
 | y::r=>by
  have:=z7D t r;unfold znN;split
  ·simp
  ·simp only [qc]; omega
theorem zbhR (ts:yB) (hl:ts.length<=1000000) (h:∀ t∈ts,GT t) (n:Nat) (hn:ts.length<n):zvv n ts ts.length 0 [] []=(true,zPK ts):=by
 have hreach:zD=70368744177664:=rfl
 have h2:=zcL (W:=zvH) (z:=default) (l:=ts) (λi (out:yB)=>((),(),ts,(ts.length:Int),(i:Int),())) (λ_ out=>(zp2 0 out,out,())) (λt out=>.inl (znN t out)) (λout=>out) (λi out=>out.length<=i/\∀ t∈out,GT t)
  (λi out hi hI=>.inl ⟨_,rfl,⟨by have:=z7D (ts.getD i default) out; omega,zbhn (h _ (zm hi)) hI.2⟩,λH K D=>by
   show (zky ts ts.length i (zp2 0 out) out).ev H K D=_;unfold zky Wy.ix;have ht:=h _ (zm hi);have hp:=zbeV ht hI.2;have hhas:=zbc1 (bs (txL (ts.getD i default).Fs)) out 0;have hget:=zbdh (bs (txL (ts.getD i default).Fs)) out 0;simp only [Wy.ev_i,Wy.ev_k,Wy.ev_h,Wy.ev_bn,Wy.ev_d,tT,hi,ht.text];rw [hhas,hget,zu (by omega)]
   cases hpos:zKw (bs (txL (ts.getD i default).Fs)) out with
   | none=>
    rw [hpos] at hp;have hb:decide ((out.length+[ts.getD i default].length)*32<=zD)=true:=by simp only [qb,qy]; omega
    simp only [Option.isSome_none,q9,hb,q7];rw [zbdY _ _ _ _ hpos,hp,z90];simp
   | some j=>
    rw [hpos] at hp;obtain ⟨p1,p2,p3⟩:=hp;have hj:=hI.2 _ (zm p1);have hw:IntKind.i64.wrap ((out.getD j default).Cf+(ts.getD i default).Cf)=(out.getD j default).Cf+(ts.getD i default).Cf:=zbfJ ⟨by have:=hj.1.1; omega,hj.1.2⟩ ⟨by have:=ht.1.1; omega,ht.1.2⟩
    have e1:(0:Int)+(j:Int)=(j:Int):=by omega
    have e2:decide (j<out.length)=true:=qg p1;simp only [Option.isSome_some,qz,q2j,e1,q7,tT,e2,hw];rw [p3,z96 ⟨ztv (out.getD j default).Cf (ts.getD i default).Cf,(out.getD j default).Fs⟩ out j 0 rfl];rfl⟩)
  (λout hI H K D=>by
   show (zky ts ts.length ts.length (zp2 0 out) out).ev H K D=_;unfold zky Wy.ix;simp only [Wy.ev_i,Wy.ev_k,tT,qr]) n 0 [] (by omega) (by omega) ⟨by simp,λt ht=>by cases ht⟩
 rw [qq,zcN] at h2;exact h2
theorem zbfb:∀ (ts o:yB),(∀ t∈ts,GT t)->(∀ t∈o,GT t)->∀ x∈ts.foldl (λa t=>znN t a) o,GT x
 | [],o,_,ho=>ho
 | t::r,o,h,ho=>zbfb r (znN t o) (λx hx=>h x (by simp [hx])) (zbhn (h t (by simp)) ho)
theorem z95:∀ (ts o:yB),(ts.foldl (λa t=>znN t a) o).length<=o.length+ts.length
 | [],o=>by simp
 | t::r,o=>by
  have h1:=z95 r (znN t o);have h2:=z7D t o;rw [q11,qc]; omega
theorem z4T (ts:yB) (hl:ts.length<=1000000) (h:∀ t∈ts,GT t):zis ts=(true,zcT [] ts):=by
 unfold zis zE2;have hL:=zbhR ts hl h (ts.length+(Int.ofNat ts.length).toNat +Int.toNat (0:Int)+(0:Nat)+(0:Nat)+(1:Nat)) (by omega)
 have hL:zvv (ts.length+(Int.ofNat ts.length).toNat +Int.toNat (0:Int)+(0:Nat)+(0:Nat)+(1:Nat)) ts (Int.ofNat ts.length) 0 [] []=_:=hL;rw [Wy.fin_bn,hL,q7];obtain ⟨hp,hd⟩:=z9W ts [] [] .nil .nil .nil;have hs:=zL5 ts [] .nil;have hg:∀ x∈zPK ts,GT x:=zbfb ts [] h λx hx=>by cases hx
 have hlen:(zPK ts).length<=1000000:=by have:=z95 ts []; simp at this; exact q18 this hl
 have e:∀ x∈zPK ts,∀ y,zb4 x y=(true,cT x y):=λx hx y=>zxW (hg x hx).fine (by omega) y
 have ok:SortOK zb4 (zPK ts):=by
  refine ⟨by omega,λx hx y _=>by rw [e x hx],λx hx=> ?_,λx hx y hy z hz h1 h2=> ?_,λx hx y hy z hz h1 h2=> ?_,λx hx y hy h1 h2=> ?_⟩
  ·rw [e x hx]; have:=zAp (x:=x) (y:=x) rfl; simp only; omega
  ·rw [e x hx] at h1 ⊢; rw [e y hy] at h2;exact zNo h1 h2
  ·rw [e x hx] at h1 ⊢; rw [e y hy] at h2;simp only at h1 h2 ⊢;have a1:=zDO x y;have a2:=zDO y z;have a3:=zDO x z;have:=zLA (zbD z.Fs) (zbD y.Fs) (zbD x.Fs) (show cT z y<=0 by omega) (show cT y x<=0 by omega)
   have:cT z x<=0:=this;omega
  ·rw [e x hx] at h1; rw [e y hy] at h2;simp only at h1 h2;have a1:=zDO x y;have hz:x.Fs=y.Fs:=zRr (by omega)
   by_cases hxy:x=y
   ·exact hxy
   ·exfalso
    -- two terms with the same factors are one
    have hdd:Dst (zPK ts):=hd;have:=List.pairwise_iff_getElem.1 hdd;obtain ⟨i,hi,ei⟩:=List.mem_iff_getElem.1 hx;obtain ⟨j,hj,ej⟩:=List.mem_iff_getElem.1 hy;rcases Nat.lt_trichotomy i j with hij | hij | hij
    ·exact this i j hi hj hij (by rw [ei,ej]; exact hz)
    ·subst hij; exact hxy (ei.symm.trans ej)
    ·exact this j i hj hi hij (by rw [ei,ej]; exact hz.symm)
 unfold zbQ zbb8;simp only [Wy.fin_bn,Wy.fin_k,qg ok,q7];congr 1;refine (ok.unique (hp:(zcT [] ts).Perm (zPK ts)) ?_).symm;refine hs.imp_of_mem λ{x y} hx hy hxy=> ?_
 rw [e y ((hp:(zcT [] ts).Perm (zPK ts)).mem_iff.1 hy)];have:=zDO x y;simp only; omega
mutual
theorem zbeH:∀ x:At,zft x<=zGY x
 | ⟨_,_,a,_,i,_,_⟩=>by
  rw [zft,zGY];have h1:=z2n a;have h2:=z0j i;omega
theorem zR5:∀ l:yC,zbK l<=zhH l
 | []=>by rw [zbK,zhH]; exact qn _
 | ⟨x,_⟩::r=>by
  rw [zbK,zhH];have h1:=zbeH x;have h2:=zR5 r;omega
theorem zLL:∀ l:yB,zO l<=zeo l
 | []=>by rw [zO,zeo]; exact qn _
 | ⟨_,fs⟩::r=>by
  rw [zO,zeo];have h1:=zR5 fs;have h2:=zLL r;omega
theorem z2n:∀ l:yA,zfn l<=zqV l
 | []=>by rw [zfn,zqV]; exact qn _
 | a::r=>by
  rw [zfn,zqV];have h1:=zLL a;have h2:=z2n r;omega
theorem z0j:∀ l:yD,zdm l<=l.length+zlh l
 | []=>by rw [zdm,zlh]; exact q19 _
 | ⟨_,a⟩::r=>by
  rw [zdm,zlh];have h1:=zLL a;have h2:=z0j r;simp only [qc];omega
end
theorem zbjG (d:Nat):zq (d+1) []:=⟨by simp,λt ht=>by cases ht⟩
end Go.Proofs.YtoknknbmfmddbaaGreatDoor
end
