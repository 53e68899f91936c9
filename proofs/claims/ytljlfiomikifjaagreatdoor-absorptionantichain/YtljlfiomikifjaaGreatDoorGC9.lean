/- Texts of this claim, joined (the program, its functions in plain words, and what they compute). -/
import Derived.Test.YtljlfiomikifjaaGreatDoorGC8
set_option autoImplicit false
set_option linter.unusedVariables false
set_option linter.unusedSectionVars false
set_option linter.unusedSimpArgs false
set_option maxRecDepth 1000000
set_option maxHeartbeats 0
/- Texts of annotations can be read back: equal texts of factors are texts of equal factors. -/
noncomputable section
namespace Go.Proofs.YtljlfiomikifjaaGreatDoor
open Go Go.Ab
theorem zbbB:∀ n,
  (∀ m a,zbF m a=true->zg3 a->3*m<=n->zwF n a=(true,bs (txN a)))/\
  (∀ m x,zes (zbF m) x=true->zgG x->x.Items.length<=1024->3*m+1<=n->znk n x=(true,bs (txA x)))/\
  (∀ m (l:yD),l.length<=1000->(∀ f∈l,zes (zbF m) f.At=true/\zgG f.At/\f.At.Items.length<=1024/\rng f.Exp)->3*m+2<=n->zhm n l=(true,bs (txL l)))
 | 0=>by
  refine ⟨?_, ?_, ?_⟩
  ·intro m a h _ hm; have:m=0:=by omega
   subst this; cases h
  all_goals (intros; omega)
 | n+1=>by
  obtain ⟨h1,h2,h3⟩:=zbbB n;refine ⟨?_, ?_, ?_⟩
  ·intro m a h hw hm;cases m with
   | zero=>cases h
   | succ m=>
    have hl:=zva (zLr h);have hlen:=(z1D (m+1)).1 a h;rw [zVR];refine zbkc _ a (by omega) (by omega) λt ht=> ?_
    obtain ⟨⟨c1,c2⟩,hok⟩:=zyF h ht;obtain ⟨q1,q2⟩:=hl.2.2.2 t ht;have hwt:=zmW (zuX (zrn hw t ht)).2.1;refine ⟨h3 m t.Fs (by omega) (λf hf=> ?_) (by omega), ?_,by constructor <;>omega⟩
    ·obtain ⟨⟨e1,_⟩,hv⟩:=zq9 hok hf;exact ⟨hv,(zo4 (hwt f hf)).1,(q2 f hf).2,by have:=(q2 f hf).1; constructor <;>omega⟩
    ·refine Nat.le_trans (zbcw λf hf=>(z1D m).2 _ (zq9 hok hf).2) ?_
     have hs:t.Fs.length+zbM t.Fs<=zL a:=by
      clear hok q1 q2 hwt hw h hlen hl;induction a with
      | nil=>cases ht
      | cons b r ih=>
       rw [zeX];rcases qd.1 ht with rfl | ht
       ·omega
       ·have:=ih ht; omega
     omega
  ·intro m x h hw hi hm;rw [zLW];have W:=zoo hw;refine zbj4 _ x h hw hi λa ha=> ?_
   have hv:zbF m a=true/\zg3 a:=by
    rcases ha with ha | ⟨w,hw',rfl⟩
    ·refine ⟨?_,(zh3 W.1.1 a ha).1⟩;cases zdN.1 h with
     | var r h=>cases ha
     | mon b c hb hc _ _ _=>
      simp only [qd,List.not_mem_nil,or_false] at ha;rcases ha with rfl | rfl
      ·exact hb
      ·exact hc
     | del b hb _ _ _=>rw [qh] at ha; subst ha; exact hb
     | abs b hb _ _=>rw [qh] at ha; subst ha; exact hb
     | tst f l o b hl hi hs hf=>cases ha
    ·refine ⟨?_,(zgs W.2.1.1 w hw').2.1⟩;cases zdN.1 h with
     | tst f l o b hl hi2 hs hf=>exact (hi2 w hw').1
     | _=>cases hw'
   refine ⟨h1 m a hv.1 hv.2 (by omega), ?_⟩
   have q1:=(z1D m).1 a hv.1;have q2:=(ze5 hv.1).2.1;omega
  ·intro m l hl h hm;rw [zIi];refine zbkg _ l hl λf hf=> ?_
   obtain ⟨q1,q2,q3,q4⟩:=h f hf;refine ⟨h2 m f.At q1 q2 q3 (by omega), ?_,q4⟩
   have q5:=(z1D m).2 f.At q1;have q6:=z3P q1 q3;omega
def hd (S:List UInt8) (u:List UInt8):Prop:=∀ c,u.head? =some c->c∈S
theorem zrE {S:List UInt8} {c:UInt8} {u:List UInt8} (h:c∈S):hd S (c::u):=λd hd=>by
 simp only [List.head?_cons,qa] at hd; subst hd; exact h
theorem hd.mono {S T:List UInt8} {u:List UInt8} (h:hd S u) (hs:∀ c∈S,c∈T):hd T u:=λc hc=>hs c (h c hc)
theorem hd.noDig {S:List UInt8} {u:List UInt8} (h:hd S u) (hs:∀ c∈S,ztM c=false):noDig u:=λc hc=>hs c (h c hc)
theorem hd.ne {S:List UInt8} {u:List UInt8} (h:hd S u) {c:UInt8} (hs:c∉S):u.head? ≠some c:=λe=>hs (h c e)
theorem hd.cons_ne {S:List UInt8} {u:List UInt8} {c:UInt8} (h:hd S (c::u)) (hs:c∉S):False:=hs (h c rfl)
theorem zQ7 {α:Type} (tx:α->List UInt8) (S0:List UInt8) (s0:UInt8) (sr:List UInt8) (P:α->Prop) (hS:s0∉S0) (hR:∀ x y,P x->P y->∀ u v,hd (s0::S0) u->hd (s0::S0) v->tx x++u=tx y++v->x=y/\u=v):
  ∀ l l':List α,l≠[]->l'≠[]->(∀ x∈l,P x)->(∀ x∈l',P x)->∀ u v,hd S0 u->hd S0 v->zfh (l.map tx) (s0::sr)++u=zfh (l'.map tx) (s0::sr)++v->l=l'/\u=v
 | [],_,h,_,_,_,_,_,_,_,_=>absurd rfl h
 | _::_,[],_,h,_,_,_,_,_,_,_=>absurd rfl h
 | [x],[y],_,_,hx,hy,u,v,hu,hv,h=>by
  have mono:∀ c∈S0,c∈s0::S0:=λc hc=>List.mem_cons_of_mem _ hc
  obtain ⟨h1,h2⟩:=hR x y (hx x (by simp)) (hy y (by simp)) u v (hu.mono mono) (hv.mono mono) h
  exact ⟨by rw [h1],h2⟩
 | [x],y::y'::r',_,_,hx,hy,u,v,hu,hv,h=>by
  have mono:∀ c∈S0,c∈s0::S0:=λc hc=>List.mem_cons_of_mem _ hc
  simp only [List.map,zfh,List.append_assoc] at h;obtain ⟨h1,h2⟩:=hR x y (hx x (by simp)) (hy y (by simp)) u _ (hu.mono mono) (zrE (by simp)) h
  rw [h2] at hu;exact (hu.cons_ne hS).elim
 | x::x'::r,[y],_,_,hx,hy,u,v,hu,hv,h=>by
  have mono:∀ c∈S0,c∈s0::S0:=λc hc=>List.mem_cons_of_mem _ hc
  simp only [List.map,zfh,List.append_assoc] at h;obtain ⟨h1,h2⟩:=hR x y (hx x (by simp)) (hy y (by simp)) _ v (zrE (by simp)) (hv.mono mono) h
  rw [<- h2] at hv;exact (hv.cons_ne hS).elim
 | x::x'::r,y::y'::r',_,_,hx,hy,u,v,hu,hv,h=>by
  have h:zfh (((x::x'::r)).map tx) (s0::sr)++u=zfh (((y::y'::r')).map tx) (s0::sr)++v:=h;simp only [List.map,zfh,List.append_assoc] at h;obtain ⟨h1,h2⟩:=hR x y (hx x (by simp)) (hy y (by simp)) _ _ (zrE (by simp)) (zrE (by simp)) h
  have h3:=(List.append_right_inj sr).1 (List.cons.inj h2).2;obtain ⟨h4,h5⟩:=zQ7 tx S0 s0 sr P hS hR (x'::r) (y'::r') (by simp) (by simp) (λz hz=>hx z (List.mem_cons_of_mem _ hz)) (λz hz=>hy z (List.mem_cons_of_mem _ hz)) u v hu hv h3
  exact ⟨by rw [h1,h4],h5⟩
theorem zbaK {t:ByteArray} (h:t.size=0):t=ByteArray.mk #[]:=zKn (by
 have:t.data.toList.length=0:=by rw [Array.length_toList]; exact h
 rw [List.length_eq_zero_iff.1 this])
theorem zba8 {x y:Value} (hx:zxB x=true) (hy:zxB y=true) (rx:rng x.Int) (ry:rng y.Int) {u v:List UInt8} (hu:hd [58,93] u) (hv:hd [58,93] v) (h:txV x++u=txV y++v):x=y/\u=v:=by
 have d1:∀ c∈([58,93]:List UInt8),ztM c=false:=by decide
 obtain ⟨cx,sx,ex,dx⟩:=z9k rx.1 rx.2;obtain ⟨cy,sy,ey,dy⟩:=z9k ry.1 ry.2
 have nd:∀ c:UInt8,c=45\/ztM c=true->c≠39/\c≠84/\c≠70:=λc hc=>by
  refine ⟨?_, ?_, ?_⟩ <;>(intro e; subst e; revert hc; decide)
 obtain ⟨kx,ix,tx⟩:=x;obtain ⟨ky,iy,ty⟩:=y;simp only [zxB,Bool.or_eq_true,qc,beq_iff_eq,qe] at hx hy;simp only at rx ry ex ey;rcases hx with (⟨rfl,hx⟩ | ⟨⟨rfl,rfl⟩,hx⟩) | ⟨⟨rfl,hx⟩,hx2⟩
 ·have:=zbaK hx; subst this;rcases hy with (⟨rfl,hy⟩ | ⟨⟨rfl,rfl⟩,hy⟩) | ⟨⟨rfl,hy⟩,hy2⟩
  ·have:=zbaK hy; subst this;simp only [txV,if_true] at h;obtain ⟨h1,h2⟩:=zyL rx ry (hu.noDig d1) (hv.noDig d1) h;exact ⟨by rw [h1],h2⟩
  ·simp only [txV,if_true,show ¬ (1:Int)=0 by decide,if_false,ex,List.cons_append,qj] at h
   exact absurd h.1 (nd cx dx).1
  ·rcases hy2 with rfl | rfl
   ·simp only [txV,if_true,show ¬ (2:Int)=0 by decide,show ¬ (2:Int)=1 by decide,show ¬ (0:Int)=1 by decide,if_false,ex,List.cons_append,qj] at h
    exact absurd h.1 (nd cx dx).2.2
   ·simp only [txV,if_true,show ¬ (2:Int)=0 by decide,show ¬ (2:Int)=1 by decide,if_false,ex,List.cons_append,qj] at h
    exact absurd h.1 (nd cx dx).2.1
 ·rcases hy with (⟨rfl,hy⟩ | ⟨⟨rfl,rfl⟩,hy⟩) | ⟨⟨rfl,hy⟩,hy2⟩
  ·simp only [txV,if_true,show ¬ (1:Int)=0 by decide,if_false,ey,List.cons_append,qj] at h
   exact absurd h.1.symm (nd cy dy).1
  ·simp only [txV,if_true,show ¬ (1:Int)=0 by decide,if_false,List.cons_append,qj,true_and,List.append_assoc,List.nil_append] at h
   obtain ⟨h1,h2⟩:=z5m _ _ u v (hu.ne (by decide)) (hv.ne (by decide)) h
   exact ⟨by rw [zKn h1],h2⟩
  ·rcases hy2 with rfl | rfl <;>simp [txV] at h
 ·have:=zbaK hx; subst this;rcases hy with (⟨rfl,hy⟩ | ⟨⟨rfl,rfl⟩,hy⟩) | ⟨⟨rfl,hy⟩,hy2⟩
  ·rcases hx2 with rfl | rfl
   ·simp only [txV,if_true,show ¬ (2:Int)=0 by decide,show ¬ (2:Int)=1 by decide,show ¬ (0:Int)=1 by decide,if_false,ey,List.cons_append,qj] at h
    exact absurd h.1.symm (nd cy dy).2.2
   ·simp only [txV,if_true,show ¬ (2:Int)=0 by decide,show ¬ (2:Int)=1 by decide,if_false,ey,List.cons_append,qj] at h
    exact absurd h.1.symm (nd cy dy).2.1
  ·rcases hx2 with rfl | rfl <;>simp [txV] at h
  ·have:=zbaK hy; subst this;rcases hx2 with rfl | rfl <;>rcases hy2 with rfl | rfl <;>simp [txV] at h
   ·exact ⟨rfl,h⟩
   ·exact ⟨rfl,h⟩
theorem zbhE {f g:Int} (hf:0<=f/\f<=3) (hg:0<=g/\g<=3) {u v:List UInt8} (h:fnT f++123::u=fnT g++123::v):f=g/\u=v:=by
 have c1:f=0\/f=1\/f=2\/f=3:=by omega
 have c2:g=0\/g=1\/g=2\/g=3:=by omega
 rcases c1 with rfl | rfl | rfl | rfl <;>rcases c2 with rfl | rfl | rfl | rfl <;>simp [fnT] at h <;>exact ⟨rfl,h⟩
theorem zbhb {f g:Int} (hf:5<=f/\f<=10) (hg:5<=g/\g<=10) {u v:List UInt8} (h:opT f++32::u=opT g++32::v):f=g/\u=v:=by
 have c1:f=5\/f=6\/f=7\/f=8\/f=9\/f=10:=by omega
 have c2:g=5\/g=6\/g=7\/g=8\/g=9\/g=10:=by omega
 rcases c1 with rfl | rfl | rfl | rfl | rfl | rfl <;>rcases c2 with rfl | rfl | rfl | rfl | rfl | rfl <;>simp [opT] at h <;>exact ⟨rfl,h⟩
def SN:List UInt8:=[93,44,59,125]
def ST:List UInt8:=32::SN
def SF:List UInt8:=42::ST
def SA:List UInt8:=94::SF
theorem z6o:∀ c∈SA,ztM c=false:=by decide
theorem zblh:∀ c∈ST,c∈SA:=by decide
theorem z6a:∀ c∈SF,c∈SA:=by decide
def RdN (V:yC->Bool):Prop:=∀ a b,V a=true->V b=true->zg3 a->zg3 b->∀ u v,hd SN u->hd SN v->txN a++u=txN b++v->a=b/\u=v
def RdA (V:yC->Bool):Prop:=∀ x y,zes V x=true->zes V y=true->zgG x->zgG y->∀ u v,hd SA u->hd SA v->txA x++u=txA y++v->x=y/\u=v
theorem zbgP {V:yC->Bool} {x:At} (h:zes V x=true):∃ c r,txA x=c::r/\ztM c=false:=by
 cases zdN.1 h with
 | var r h=>rw [txA]; exact ⟨116,_,rfl,rfl⟩
 | mon a b _ _ _ _ _=>rw [txA]; exact ⟨109,_,rfl,rfl⟩
 | del a _ _ _ _=>rw [txA]; exact ⟨100,_,rfl,rfl⟩
 | abs a _ _ _=>rw [txA]; exact ⟨97,_,rfl,rfl⟩
 | tst f l o b _ _ _ _=>rw [txA]; exact ⟨116,_,rfl,rfl⟩
theorem zbfG {V:yC->Bool} (hV:RdN V):RdA V:=by
 intro x y hx hy wx wy u v hu hv h;have Wx:=zoo wx;have Wy:=zoo wy;have k0:¬ (1:Int)=0:=by decide
 have c44:∀ z,hd SN (44::z):=λz=>zrE (by decide)
 have c93:∀ z,hd SN (93::z):=λz=>zrE (by decide)
 have tE:∀ (r:RowID),zDv r=true->rng r.Table->∀ w z,zjF r.Table++w≠101::z:=λr hr hg w z e=>by
  simp only [zDv,qc,qe] at hr;obtain ⟨d1,d2⟩:=zbgm (show 0<=r.Table by omega) hg.2
  cases hl:zjF r.Table with
  | nil=>exact d2 hl
  | cons c s=>
   rw [hl] at e d1;simp only [List.cons_append,qj] at e;rw [List.all_cons,e.1] at d1;revert d1; simp [ztM]
 cases zdN.1 hx with
 | var r hr=>
  have rr:=Wx.2.2.2.2.1;simp only at rr;cases zdN.1 hy with
  | var r' hr'=>
   have rr':=Wy.2.2.2.2.1;simp only at rr';rw [txA,txA] at h;simp only [zdL,if_true,txR,List.cons_append,qj,true_and,List.append_assoc] at h;obtain ⟨h1,h2⟩:=zyL (znT rr.1) (znT rr'.1) (λc hc=>by simp only [List.head?_cons,qa] at hc; subst hc; rfl) (λc hc=>by simp only [List.head?_cons,qa] at hc; subst hc; rfl) h
   simp only [qj,true_and] at h2;obtain ⟨h3,h4⟩:=zyL (znT rr.2) (znT rr'.2) (hu.noDig z6o) (hv.noDig z6o) h2;obtain ⟨t,s⟩:=r; obtain ⟨t',s'⟩:=r';simp only at h1 h3;exact ⟨by rw [h1,h3],h4⟩
  | tst f l o b _ _ _ _=>
   rw [txA,txA] at h;simp only [zdL,if_true,txR,show ¬ (4:Int)=0 by decide,show ¬ (4:Int)=1 by decide,show ¬ (4:Int)=2 by decide,show ¬ (4:Int)=3 by decide,if_false,List.cons_append,qj,true_and,List.append_assoc] at h
   exact absurd h (tE r hr (znT rr.1) _ _)
  | mon a b _ _ _ _ _=>rw [txA,txA] at h; simp [zdL,txR] at h
  | del a _ _ _ _=>rw [txA,txA] at h; simp [zdL,txR] at h
  | abs a _ _ _=>rw [txA,txA] at h; simp [zdL,txR] at h
 | mon a b ha hb _ _ _=>
  cases zdN.1 hy with
  | mon a' b' ha' hb' _ _ _=>
   rw [txA,txA,zn4,zn4] at h;simp only [zdL,if_true,k0,if_false,List.map,List.getD_cons_zero,List.getD_cons_succ,List.cons_append,qj,true_and,List.append_assoc,List.nil_append] at h;have wa:=λz hz=>(zh3 Wx.1.1 z hz).1
   have wb:=λz hz=>(zh3 Wy.1.1 z hz).1
   obtain ⟨h1,h2⟩:=hV a a' ha ha' (wa a (by simp)) (wb a' (by simp)) _ _ (c44 _) (c44 _) h
   simp only [qj,true_and] at h2;obtain ⟨h3,h4⟩:=hV b b' hb hb' (wa b (by simp)) (wb b' (by simp)) _ _ (c93 _) (c93 _) h2
   simp only [qj,true_and] at h4;exact ⟨by rw [h1,h3],h4⟩
  | var r h=>rw [txA,txA] at h; simp [zdL,txR] at h
  | del a _ _ _ _=>rw [txA,txA] at h; simp [zdL,txR] at h
  | abs a _ _ _=>rw [txA,txA] at h; simp [zdL,txR] at h
  | tst f l o b _ _ _ _=>rw [txA,txA] at h; simp [zdL,txR] at h
 | del a ha _ _ _=>
  cases zdN.1 hy with
  | del a' ha' _ _ _=>
   rw [txA,txA,zn4,zn4] at h;simp only [zdL,if_true,show ¬ (2:Int)=0 by decide,show ¬ (2:Int)=1 by decide,if_false,List.map,List.getD_cons_zero,List.cons_append,qj,true_and,List.append_assoc,List.nil_append] at h
   have wa:=λz hz=>(zh3 Wx.1.1 z hz).1
   have wb:=λz hz=>(zh3 Wy.1.1 z hz).1
   obtain ⟨h1,h2⟩:=hV a a' ha ha' (wa a (by simp)) (wb a' (by simp)) _ _ (c93 _) (c93 _) h
   simp only [qj,true_and] at h2;exact ⟨by rw [h1],h2⟩
  | var r h=>rw [txA,txA] at h; simp [zdL,txR] at h
  | mon a b _ _ _ _ _=>rw [txA,txA] at h; simp [zdL,txR] at h
  | abs a _ _ _=>rw [txA,txA] at h; simp [zdL,txR] at h
  | tst f l o b _ _ _ _=>rw [txA,txA] at h; simp [zdL,txR] at h
 | abs a ha _ _=>
  cases zdN.1 hy with
  | abs a' ha' _ _=>
   rw [txA,txA,zn4,zn4] at h;simp only [zdL,if_true,show ¬ (3:Int)=0 by decide,show ¬ (3:Int)=1 by decide,show ¬ (3:Int)=2 by decide,if_false,List.map,List.getD_cons_zero,List.cons_append,qj,true_and,List.append_assoc,List.nil_append] at h
   have wa:=λz hz=>(zh3 Wx.1.1 z hz).1
   have wb:=λz hz=>(zh3 Wy.1.1 z hz).1
   obtain ⟨h1,h2⟩:=hV a a' ha ha' (wa a (by simp)) (wb a' (by simp)) _ _ (c93 _) (c93 _) h
   simp only [qj,true_and] at h2;exact ⟨by rw [h1],h2⟩
  | var r h=>rw [txA,txA] at h; simp [zdL,txR] at h
  | mon a b _ _ _ _ _=>rw [txA,txA] at h; simp [zdL,txR] at h
  | del a _ _ _ _=>rw [txA,txA] at h; simp [zdL,txR] at h
  | tst f l o b _ _ _ _=>rw [txA,txA] at h; simp [zdL,txR] at h
 | tst f l o b hl hi hs hf=>
  cases zdN.1 hy with
  | tst f' l' o' b' hl' hi' hs' hf'=>
   obtain ⟨⟨f0,f3,o5,o10⟩,hb,hit⟩:=zu9 hf;obtain ⟨⟨f0',f3',o5',o10'⟩,hb',hit'⟩:=zu9 hf';have wl:=zgs Wx.2.1.1;have wl':=zgs Wy.2.1.1;rw [txA,txA,zOO,zOO] at h;simp only [zdL,show ¬ (4:Int)=0 by decide,show ¬ (4:Int)=1 by decide,show ¬ (4:Int)=2 by decide,show ¬ (4:Int)=3 by decide,if_false,List.cons_append,qj,true_and,List.append_assoc,List.nil_append] at h
   obtain ⟨h1,h2⟩:=zbhE ⟨f0,f3⟩ ⟨f0',f3'⟩ h
   obtain ⟨h3,h4⟩:=zQ7 txI [125] 59 [32] (λw=>(V w.Ann=true/\zg3 w.Ann)/\zxB w.Value=true/\rng w.Value.Int) (by decide) (λx y px py u v hu hv e=>by
    simp only [txI,List.append_assoc,List.cons_append,List.nil_append] at e;obtain ⟨e1,e2⟩:=zba8 px.2.1 py.2.1 px.2.2 py.2.2 (zrE (by decide)) (zrE (by decide)) e
    simp only [qj,true_and] at e2;obtain ⟨e3,e4⟩:=hV _ _ px.1.1 py.1.1 px.1.2 py.1.2 u v (hu.mono (by decide)) (hv.mono (by decide)) e2
    obtain ⟨vx,ax⟩:=x; obtain ⟨vy,ay⟩:=y;simp only at e1 e3;exact ⟨by rw [e1,e3],e4⟩) l l' hl hl' (λw hw=>⟨⟨(hi w hw).1,(wl w hw).2.1⟩,(hit w hw).1,znT (wl w hw).1.2.1⟩) (λw hw=>⟨⟨(hi' w hw).1,(wl' w hw).2.1⟩,(hit' w hw).1,znT (wl' w hw).1.2.1⟩) _ _ (zrE (by decide)) (zrE (by decide)) h2
   simp only [qj,true_and] at h4;obtain ⟨h5,h6⟩:=zbhb ⟨o5,o10⟩ ⟨o5',o10'⟩ h4;obtain ⟨h7,h8⟩:=zba8 hb hb' (znT Wx.2.2.1.2.1) (znT Wy.2.2.1.2.1) (zrE (by decide)) (zrE (by decide)) h6
   simp only [qj,true_and] at h8;exact ⟨by rw [h1,h3,h5,h7],h8⟩
  | var r hr=>
   have rr:=Wy.2.2.2.2.1;simp only at rr;rw [txA,txA] at h;simp only [zdL,if_true,txR,show ¬ (4:Int)=0 by decide,show ¬ (4:Int)=1 by decide,show ¬ (4:Int)=2 by decide,show ¬ (4:Int)=3 by decide,if_false,List.cons_append,qj,true_and,List.append_assoc] at h
   exact absurd h.symm (tE r hr (znT rr.1) _ _)
  | mon a b _ _ _ _ _=>rw [txA,txA] at h; simp [zdL,txR] at h
  | del a _ _ _ _=>rw [txA,txA] at h; simp [zdL,txR] at h
  | abs a _ _ _=>rw [txA,txA] at h; simp [zdL,txR] at h
def gF (V:yC->Bool) (f:Fc):Prop:=zes V f.At=true/\zgG f.At/\rng f.Exp
theorem zbjP {V:yC->Bool} (hA:RdA V) {f g:Fc} (hf:gF V f) (hg:gF V g) {u v:List UInt8} (hu:hd SF u) (hv:hd SF v) (h:txF f++u=txF g++v):f=g/\u=v:=by
 obtain ⟨x,e⟩:=f; obtain ⟨y,e'⟩:=g;obtain ⟨a1,a2,a3⟩:=hf; obtain ⟨b1,b2,b3⟩:=hg;simp only at a1 a2 a3 b1 b2 b3;have c94:∀ z,hd SA (94::z):=λz=>zrE (by decide)
 have n94:(94:UInt8)∉SF:=by decide
 have dg:∀ c∈SF,ztM c=false:=λc hc=>z6o c (z6a c hc)
 unfold txF zQ6 at h;simp only at h;by_cases h1:e=1
 ·by_cases h2:e'=1
  ·rw [if_pos h1,if_pos h2] at h;obtain ⟨q1,q2⟩:=hA x y a1 b1 a2 b2 u v (hu.mono z6a) (hv.mono z6a) h;exact ⟨by rw [q1,h1,h2],q2⟩
  ·rw [if_pos h1,if_neg h2,List.append_assoc] at h;obtain ⟨q1,q2⟩:=hA x y a1 b1 a2 b2 u _ (hu.mono z6a) (c94 _) h;rw [q2] at hu;exact (hu.cons_ne n94).elim
 ·by_cases h2:e'=1
  ·rw [if_neg h1,if_pos h2,List.append_assoc] at h;obtain ⟨q1,q2⟩:=hA x y a1 b1 a2 b2 _ v (c94 _) (hv.mono z6a) h;rw [<- q2] at hv;exact (hv.cons_ne n94).elim
  ·rw [if_neg h1,if_neg h2,List.append_assoc,List.append_assoc] at h;obtain ⟨q1,q2⟩:=hA x y a1 b1 a2 b2 _ _ (c94 _) (c94 _) h;simp only [List.cons_append,qj,true_and] at q2;obtain ⟨q3,q4⟩:=zyL a3 b3 (hu.noDig dg) (hv.noDig dg) q2;exact ⟨by rw [q1,q3],q4⟩
theorem z8U {V:yC->Bool} (hA:RdA V) {l l':yD} (hl:l≠[]) (hl':l'≠[]) (h1:∀ f∈l,gF V f) (h2:∀ f∈l',gF V f) {u v:List UInt8} (hu:hd ST u) (hv:hd ST v) (h:txL l++u=txL l'++v):l=l'/\u=v:=by
 unfold txL at h;rw [zCM,zCM] at h;exact zQ7 txF ST 42 [] (gF V) (by decide) (λx y px py u v hu hv e=>zbjP hA px py hu hv e) l l' hl hl' h1 h2 u v hu hv h
theorem zJI {V:yC->Bool} {l:yD} (hl:l≠[]) (h:∀ f∈l,gF V f):∃ c r,txL l=c::r/\ztM c=false:=by
 cases l with
 | nil=>exact absurd rfl hl
 | cons f r=>
  obtain ⟨c,s,e,hc⟩:=zbgP (h f (by simp)).1
  have:∃ s',txF f=c::s':=by
   unfold txF zQ6;split
   ·exact ⟨s,e⟩
   ·exact ⟨_,by rw [e]; rfl⟩
  obtain ⟨s',e'⟩:=this;unfold txL;rw [zCM];cases r with
  | nil=>exact ⟨c,s',by simp only [List.map,zfh]; exact e',hc⟩
  | cons g r=>exact ⟨c,_,by simp only [List.map,zfh]; rw [e']; rfl,hc⟩
def gT (V:yC->Bool) (t:Term):Prop:=(1<=t.Cf/\t.Cf<=9223372036854775807)/\∀ f∈t.Fs,gF V f
theorem z7Z {n:Int} (h:1<=n) (h2:n<=9223372036854775807):∃ c r,zjF n=c::r/\ztM c=true/\c≠48:=by
 have e:zjF n=Lib.decDigits n.toNat:=by rw [z4o (by omega) h2,Lib.itoa,if_neg (by omega)]
 obtain ⟨a1,a2,a3,a4⟩:=z0U n.toNat n.toNat (Nat.le_refl _);rw [e];cases hl:Lib.decDigits n.toNat with
 | nil=>exact absurd hl a3
 | cons c r=>
  rw [hl] at a1 a4;rw [List.all_cons,qc] at a1;exact ⟨c,r,rfl,a1.1,λe=>a4 (by omega) (by rw [e]; rfl)⟩
theorem zbaU {l:yD}:zPA l=[]↔l=[]:=by rw [zCM,List.map_eq_nil_iff]
theorem zba6 (t:Term):txT t=if t.Fs=[] then zjF t.Cf else if t.Cf=1 then txL t.Fs else zjF t.Cf++42::txL t.Fs:=by
 unfold txT z0s;by_cases h:t.Fs=[]
 ·rw [if_pos (zbaU.2 h),if_pos h]
 ·rw [if_neg (λe=>h (zbaU.1 e)),if_neg h]; rfl
theorem zbkb {V:yC->Bool} (hA:RdA V) {s t:Term} (hs:gT V s) (ht:gT V t) {u v:List UInt8} (hu:hd ST u) (hv:hd ST v) (h:txT s++u=txT t++v):s=t/\u=v:=by
 obtain ⟨c,l⟩:=s; obtain ⟨c',l'⟩:=t;obtain ⟨⟨c1,c2⟩,h1⟩:=hs; obtain ⟨⟨c1',c2'⟩,h2⟩:=ht;simp only at c1 c2 h1 c1' c2' h2;have dg:∀ c∈ST,ztM c=false:=λc hc=>z6o c (zblh c hc)
 have n42:(42:UInt8)∉ST:=by decide
 have d42:∀ z,noDig (42::z):=λz c hc=>by simp only [List.head?_cons,qa] at hc; subst hc; rfl
 have rc:rng c:=⟨by omega,c2⟩
 have rc':rng c':=⟨by omega,c2'⟩
 obtain ⟨d,r,e,hd,_⟩:=z7Z c1 c2;obtain ⟨d',r',e',hd',_⟩:=z7Z c1' c2';rw [zba6,zba6] at h;simp only at h;by_cases l0:l=[]
 ·rw [if_pos l0] at h;by_cases l0':l'=[]
  ·rw [if_pos l0'] at h;obtain ⟨q1,q2⟩:=zyL rc rc' (hu.noDig dg) (hv.noDig dg) h;exact ⟨by rw [q1,l0,l0'],q2⟩
  ·rw [if_neg l0'] at h;by_cases k':c'=1
   ·rw [if_pos k'] at h;obtain ⟨d2,r2,e2,hd2⟩:=zJI l0' h2;rw [e,e2] at h;simp only [List.cons_append,qj] at h;rw [h.1,hd2] at hd; cases hd
   ·rw [if_neg k',List.append_assoc] at h;obtain ⟨q1,q2⟩:=zyL rc rc' (hu.noDig dg) (d42 _) h;rw [q2] at hu;exact (hu.cons_ne n42).elim
 ·rw [if_neg l0] at h;by_cases k:c=1
  ·rw [if_pos k] at h;obtain ⟨d2,r2,e2,hd2⟩:=zJI l0 h1;by_cases l0':l'=[]
   ·rw [if_pos l0',e2,e'] at h;simp only [List.cons_append,qj] at h;rw [<- h.1,hd2] at hd'; cases hd'
   ·rw [if_neg l0'] at h;by_cases k':c'=1
    ·rw [if_pos k'] at h;obtain ⟨q1,q2⟩:=z8U hA l0 l0' h1 h2 hu hv h;exact ⟨by rw [q1,k,k'],q2⟩
    ·rw [if_neg k',e2,e'] at h;simp only [List.cons_append,qj] at h;rw [<- h.1,hd2] at hd'; cases hd'
  ·rw [if_neg k,List.append_assoc] at h;by_cases l0':l'=[]
   ·rw [if_pos l0'] at h;obtain ⟨q1,q2⟩:=zyL rc rc' (d42 _) (hv.noDig dg) h;rw [<- q2] at hv;exact (hv.cons_ne n42).elim
   ·rw [if_neg l0'] at h;by_cases k':c'=1
    ·rw [if_pos k'] at h;obtain ⟨d2,r2,e2,hd2⟩:=zJI l0' h2;rw [e,e2] at h;simp only [List.cons_append,qj] at h;rw [h.1,hd2] at hd; cases hd
    ·rw [if_neg k',List.append_assoc] at h;obtain ⟨q1,q2⟩:=zyL rc rc' (d42 _) (d42 _) h;simp only [List.cons_append,qj,true_and] at q2;obtain ⟨q3,q4⟩:=z8U hA l0 l0' h1 h2 hu hv q2;exact ⟨by rw [q1,q3],q4⟩
theorem zbhd {V:yC->Bool} {t:Term} (ht:gT V t):∃ c r,txT t=c::r/\c≠48:=by
 obtain ⟨⟨c1,c2⟩,h1⟩:=ht;obtain ⟨d,r,e,hd,h48⟩:=z7Z c1 c2;rw [zba6];by_cases l0:t.Fs=[]
 ·rw [if_pos l0]; exact ⟨d,r,e,h48⟩
 ·rw [if_neg l0];split
  ·obtain ⟨d2,r2,e2,hd2⟩:=zJI l0 h1;exact ⟨d2,r2,e2,λe=>by rw [e] at hd2; revert hd2; decide⟩
  ·exact ⟨d,_,by rw [e]; rfl,h48⟩
theorem zbj2 {V:yC->Bool} (hA:RdA V) {a b:yC} (ha:∀ t∈a,gT V t) (hb:∀ t∈b,gT V t) {u v:List UInt8} (hu:hd SN u) (hv:hd SN v) (h:txN a++u=txN b++v):a=b/\u=v:=by
 have en:∀ z:yC,z≠[]->txN z=zfh (z.map txT) [32,43,32]:=λz hz=>by
  unfold txN zVs; rw [zVU,if_neg (by simpa using hz)]
 have e0:txN []=[48]:=by unfold txN zVs; rw [zVx,if_pos rfl]
 have h48:∀ z:yC,z≠[]->(∀ t∈z,gT V t)->∃ c r,txN z=c::r/\c≠48:=λz hz hg=>by
  rw [en z hz];cases z with
  | nil=>exact absurd rfl hz
  | cons t r=>
   obtain ⟨c,s,e,hc⟩:=zbhd (hg t (by simp))
   cases r with
   | nil=>exact ⟨c,s,by simp only [List.map,zfh]; exact e,hc⟩
   | cons t' r=>exact ⟨c,_,by simp only [List.map,zfh]; rw [e]; rfl,hc⟩
 by_cases a0:a=[]
 ·by_cases b0:b=[]
  ·rw [a0,b0] at h;exact ⟨by rw [a0,b0],List.append_cancel_left h⟩
  ·obtain ⟨c,r,e,hc⟩:=h48 b b0 hb;rw [a0,e0,e] at h;simp only [List.cons_append,qj] at h;exact absurd h.1.symm hc
 ·by_cases b0:b=[]
  ·obtain ⟨c,r,e,hc⟩:=h48 a a0 ha;rw [b0,e0,e] at h;simp only [List.cons_append,qj] at h;exact absurd h.1 hc
  ·rw [en a a0,en b b0] at h;exact zQ7 txT SN 32 [43,32] (gT V) (by decide) (λx y px py u v hu hv e=>zbkb hA px py hu hv e) a b a0 b0 ha hb u v hu hv h
theorem zbhy:∀ m,RdN (zbF m)/\RdA (zbF m):=by
 intro m;induction m with
 | zero=>
  have:RdN (zbF 0):=λa b ha=>by cases ha
  exact ⟨this,zbfG this⟩
 | succ m ih=>
  have:RdN (zbF (m+1)):=λa b ha hb wa wb u v hu hv h=>by
   have key:∀ z,zbF (m+1) z=true->zg3 z->∀ t∈z,gT (zbF m) t:=λz hz wz t ht=>by
    obtain ⟨⟨c1,c2⟩,hok⟩:=zyF hz ht;have hwt:=zmW (zuX (zrn wz t ht)).2.1;exact ⟨⟨c1,by omega⟩,λf hf=>⟨(zq9 hok hf).2,(zo4 (hwt f hf)).1,znT (zo4 (hwt f hf)).2⟩⟩
   exact zbj2 ih.2 (key a ha wa) (key b hb wb) hu hv h
  exact ⟨this,zbfG this⟩
theorem zbjj {m:Nat} {l l':yD} (h1:∀ f∈l,gF (zbF m) f) (h2:∀ f∈l',gF (zbF m) f) (h:txL l=txL l'):l=l':=by
 have e0:txL []=[]:=by unfold txL; rw [zPA]; rfl
 by_cases l0:l=[]
 ·by_cases l0':l'=[]
  ·rw [l0,l0']
  ·obtain ⟨c,r,e,_⟩:=zJI l0' h2;rw [l0,e0,e] at h; cases h
 ·by_cases l0':l'=[]
  ·obtain ⟨c,r,e,_⟩:=zJI l0 h1;rw [l0',e0,e] at h; cases h
  ·exact (z8U (zbhy m).2 l0 l0' h1 h2 (u:=[]) (v:=[]) (λc hc=>by cases hc) (λc hc=>by cases hc) (by rw [h])).1
def zDm (a b:Int):Int:=if 1152921504606846976<a+b then 1152921504606846976 else a+b
def cT (x y:Term):Int:=zbI (zbu x.Fs) (zbu y.Fs)
theorem z1K {x y:Term} (h:cT x y=0):x.Fs=y.Fs:=zE7 _ _ (zN6 _ _ h)
theorem zF9 {x y:Term} (h:x.Fs=y.Fs):cT x y=0:=by unfold cT; rw [h]; exact z0Q _
def zj8 (t:Term):yC->yC
 | []=>[t]
 | x::r=>if cT x t<0 then x::zj8 t r else if cT x t=0 then ⟨zDm x.Cf t.Cf,t.Fs⟩::r else t::x::r
def zoF (t:Term):yC->yC
 | []=>[t]
 | x::r=>if x.Fs=t.Fs then ⟨zDm x.Cf t.Cf,x.Fs⟩::r else x::zoF t r
abbrev Srs (l:yC):Prop:=l.Pairwise λx y=>cT x y<0
abbrev Dst (l:yC):Prop:=l.Pairwise λx y=>x.Fs≠y.Fs
theorem Srs.dst {l:yC} (h:Srs l):Dst l:=h.imp λ{x y} hxy e=>by rw [zF9 e] at hxy; omega
def SM (l:yC) (t y:Term):Prop:=(y∈l/\y.Fs≠t.Fs)\/(y.Fs=t.Fs/\((∃ x∈l,x.Fs=t.Fs/\y.Cf=zDm x.Cf t.Cf)\/((∀ x∈l,x.Fs≠t.Fs)/\y.Cf=t.Cf)))
theorem zbdY {x y:Term} (h1:x.Cf=y.Cf) (h2:x.Fs=y.Fs):x=y:=by cases x; cases y; simp_all
theorem zIY {x y z:Term} (h1:cT x y<0) (h2:cT y z<0):cT x z<0:=z91 h1 h2
theorem zJH (x y:Term):cT y x= - cT x y:=zKo _ _
theorem z6s {x t y:Term} {r:yC} (hx:x.Fs≠t.Fs) (hr:∀ z∈r,x.Fs≠z.Fs):SM (x::r) t y↔y=x\/SM r t y:=by
 unfold SM;constructor
 ·rintro (⟨h1,h2⟩ | ⟨h1,⟨z,hz,h2,h3⟩ | ⟨h2,h3⟩⟩)
  ·rcases qd.1 h1 with rfl | h1
   ·exact .inl rfl
   ·exact .inr (.inl ⟨h1,h2⟩)
  ·rcases qd.1 hz with rfl | hz
   ·exact absurd h2 hx
   ·exact .inr (.inr ⟨h1,.inl ⟨z,hz,h2,h3⟩⟩)
  ·exact .inr (.inr ⟨h1,.inr ⟨λz hz=>h2 z (by simp [hz]),h3⟩⟩)
 ·rintro (rfl | ⟨h1,h2⟩ | ⟨h1,⟨z,hz,h2,h3⟩ | ⟨h2,h3⟩⟩)
  ·exact .inl ⟨by simp,hx⟩
  ·exact .inl ⟨by simp [h1],h2⟩
  ·exact .inr ⟨h1,.inl ⟨z,by simp [hz],h2,h3⟩⟩
  ·exact .inr ⟨h1,.inr ⟨λz hz=>by
    rcases qd.1 hz with rfl | hz
    ·exact hx
    ·exact h2 z hz,h3⟩⟩
theorem z8h {t y:Term} {l:yC} (h:∀ z∈l,z.Fs≠t.Fs):SM l t y↔y=t\/y∈l:=by
 unfold SM;constructor
 ·rintro (⟨h1,h2⟩ | ⟨h1,⟨z,hz,h2,h3⟩ | ⟨h2,h3⟩⟩)
  ·exact .inr h1
  ·exact absurd h2 (h z hz)
  ·exact .inl (zbdY h3 h1)
 ·rintro (rfl | h1)
  ·exact .inr ⟨rfl,.inr ⟨h,rfl⟩⟩
  ·exact .inl ⟨h1,h y h1⟩
theorem zbfB {x t y:Term} {r:yC} (hx:x.Fs=t.Fs) (hr:∀ z∈r,z.Fs≠t.Fs):SM (x::r) t y↔y=⟨zDm x.Cf t.Cf,t.Fs⟩\/y∈r:=by
 unfold SM;constructor
 ·rintro (⟨h1,h2⟩ | ⟨h1,⟨z,hz,h2,h3⟩ | ⟨h2,h3⟩⟩)
  ·rcases qd.1 h1 with rfl | h1
   ·exact absurd hx h2
   ·exact .inr h1
  ·rcases qd.1 hz with rfl | hz
   ·exact .inl (zbdY h3 h1)
   ·exact absurd h2 (hr z hz)
  ·exact absurd hx (h2 x (by simp))
 ·rintro (rfl | h1)
  ·exact .inr ⟨rfl,.inl ⟨x,by simp,hx,rfl⟩⟩
  ·exact .inl ⟨by simp [h1],hr y h1⟩
theorem zUP {t y:Term}:∀ {l:yC},Srs l->(y∈zj8 t l↔SM l t y)
 | [],_=>by rw [z8h (by simp)]; simp [zj8]
 | x::r,h=>by
  have hc:=qi.1 h;have hd:=qi.1 h.dst;unfold zj8;by_cases h1:cT x t<0
  ·rw [if_pos h1,qd,z6s (λe=>by rw [zF9 e] at h1; omega) hd.1,zUP hc.2]
  ·rw [if_neg h1];by_cases h2:cT x t=0
   ·rw [if_pos h2,List.mem_cons,zbfB (z1K h2) λz hz e=>by
     have:=hc.1 z hz; rw [zF9 ((z1K h2).trans e.symm)] at this; omega]
   ·rw [if_neg h2,z8h λz hz e=>by
     have a:=zJH x t;rcases qd.1 hz with rfl | hz
     ·exact h2 (zF9 e)
     ·have b:=zIY (show cT t x<0 by omega) (hc.1 z hz)
      rw [zF9 e.symm] at b; omega]
    rw [qd]
theorem z82 {t y:Term}:∀ {l:yC},Dst l->(y∈zoF t l↔SM l t y)
 | [],_=>by rw [z8h (by simp)]; simp [zoF]
 | x::r,h=>by
  have hd:=qi.1 h;unfold zoF;by_cases h2:x.Fs=t.Fs
  ·rw [if_pos h2,qd,zbfB h2 λz hz e=>hd.1 z hz (h2.trans e.symm),h2]
  ·rw [if_neg h2,qd,z6s h2 hd.1,z82 hd.2]
theorem zF4 {t:Term}:∀ {l:yC},Srs l->Srs (zj8 t l)
 | [],_=>by simp [zj8]
 | x::r,h=>by
  have hc:=qi.1 h;unfold zj8;by_cases h1:cT x t<0
  ·rw [if_pos h1];refine qi.2 ⟨λz hz=> ?_,zF4 hc.2⟩
   rcases (zUP hc.2).1 hz with ⟨h2,_⟩ | ⟨h2,_⟩
   ·exact hc.1 z h2
   ·have:cT x z=cT x t:=by unfold cT; rw [h2]
    rw [this]; exact h1
  ·rw [if_neg h1];by_cases h2:cT x t=0
   ·rw [if_pos h2];refine qi.2 ⟨λz hz=> ?_,hc.2⟩
    have:=hc.1 z hz;unfold cT at this ⊢;rw [<- z1K h2]; exact this
   ·rw [if_neg h2];have a:=zJH x t;refine qi.2 ⟨λz hz=> ?_,h⟩
    rcases qd.1 hz with rfl | hz
    ·omega
    ·exact zIY (show cT t x<0 by omega) (hc.1 z hz)
theorem z8s {t:Term}:∀ {l:yC},Dst l->Dst (zoF t l)
 | [],_=>by simp [zoF]
 | x::r,h=>by
  have hc:=qi.1 h;unfold zoF;by_cases h2:x.Fs=t.Fs
  ·rw [if_pos h2];exact qi.2 ⟨λz hz=>hc.1 z hz,hc.2⟩
  ·rw [if_neg h2];refine qi.2 ⟨λz hz=> ?_,z8s hc.2⟩
   rcases (z82 hc.2).1 hz with ⟨h3,_⟩ | ⟨h3,_⟩
   ·exact hc.1 z h3
   ·rw [h3]; exact h2
theorem Dst.nodup {l:yC} (h:Dst l):l.Nodup:=h.imp λ{x y} hxy e=>hxy (by rw [e])
theorem zbiJ {l l':yC} (h:l.Perm l') (t y:Term):SM l t y↔SM l' t y:=by
 unfold SM;simp only [h.mem_iff]
theorem zbgi {l l':yC} (t:Term) (h:l.Perm l') (hs:Srs l) (hd:Dst l'):(zj8 t l).Perm (zoF t l'):=
 (List.perm_ext_iff_of_nodup (zF4 hs).dst.nodup (z8s hd).nodup).2 λy=>by rw [zUP hs,z82 hd,zbiJ h]
def zgy (a b:yC):yC:=b.foldl (λa t=>zj8 t a) a
def zQ2 (ts:yC):yC:=ts.foldl (λa t=>zoF t a) []
theorem z1v:∀ (b a:yC),Srs a->Srs (zgy a b)
 | [],_,h=>h
 | t::r,a,h=>z1v r (zj8 t a) (zF4 h)
theorem z9L:∀ (ts l l':yC),l.Perm l'->Srs l->Dst l'->(zgy l ts).Perm (ts.foldl (λa t=>zoF t a) l')/\Dst (ts.foldl (λa t=>zoF t a) l')
 | [],l,l',h,_,hd=>⟨h,hd⟩
 | t::r,l,l',h,hs,hd=>z9L r (zj8 t l) (zoF t l') (zbgi t h hs hd) (zF4 hs) (z8s hd)
theorem zbcH {t:Term}:∀ {l:yC},(∀ x∈l,cT x t<0)->zj8 t l=l++[t]
 | [],_=>rfl
 | x::r,h=>by
  unfold zj8;rw [if_pos (h x (by simp)),zbcH λy hy=>h y (by simp [hy])]; rfl
theorem z7V:∀ (r l:yC),Srs (l++r)->zgy l r=l++r
 | [],l,_=>by simp [zgy]
 | t::r,l,h=>by
  have e:zgy l (t::r)=zgy (zj8 t l) r:=rfl;have hp:=List.pairwise_append.1 h;rw [e,zbcH λx hx=>hp.2.2 x hx t (by simp),z7V r (l++[t]) (by simpa using h)]
  simp
theorem sum_nil {a:yC} (h:Srs a):zgy [] a=a:=z7V a [] h
theorem zbjw (a b:yC) (h:Srs a):zgy [] (a++b)=zgy a b:=by
 show (a++b).foldl (λa t=>zj8 t a) []=_
 rw [List.foldl_append];show zgy (zgy [] a) b=_;rw [sum_nil h]
theorem zT1 {y:Term}:∀ (b a:yC),Srs a->y∈zgy a b->∃ x,(x∈a\/x∈b)/\y.Fs=x.Fs
 | [],a,_,h=>⟨y,.inl h,rfl⟩
 | t::r,a,hs,h=>by
  obtain ⟨x,hx,e⟩:=zT1 r (zj8 t a) (zF4 hs) h;rcases hx with hx | hx
  ·rcases (zUP hs).1 hx with ⟨h1,_⟩ | ⟨h1,_⟩
   ·exact ⟨x,.inl h1,e⟩
   ·exact ⟨t,.inr (by simp),e.trans h1⟩
  ·exact ⟨x,.inr (by simp [hx]),e⟩
theorem z9b {a b:Int} (ha:1<=a) (hb:1<=b):1<=zDm a b/\zDm a b<=1152921504606846976:=by
 unfold zDm;split
 ·omega
 ·omega
def cOK (t:Term):Prop:=1<=t.Cf/\t.Cf<=1152921504606846976
theorem zbeh {t:Term} (ht:cOK t):∀ {l:yC},(∀ x∈l,cOK x)->∀ x∈zj8 t l,cOK x
 | [],_,x,hx=>by simp only [zj8,qh] at hx; subst hx; exact ht
 | y::r,h,x,hx=>by
  unfold zj8 at hx;split at hx
  ·rcases qd.1 hx with rfl | hx
   ·exact h _ (by simp)
   ·exact zbeh ht (λz hz=>h z (by simp [hz])) x hx
  ·split at hx
   ·rcases qd.1 hx with rfl | hx
    ·exact z9b (h y (by simp)).1 ht.1
    ·exact h x (by simp [hx])
   ·rcases qd.1 hx with rfl | hx
    ·exact ht
    ·exact h x hx
theorem zbic:∀ (b:yC) {a:yC},(∀ x∈a,cOK x)->(∀ x∈b,cOK x)->∀ x∈zgy a b,cOK x
 | [],a,ha,_=>ha
 | t::r,a,ha,hb=>zbic r (zbeh (hb t (by simp)) ha) λx hx=>hb x (by simp [hx])
theorem z1T {t:Term}:∀ (l:yC),(zj8 t l).length<=l.length+1
 | []=>by simp [zj8]
 | x::r=>by
  have:=z1T (t:=t) r;unfold zj8;split
  ·simp only [qf]; omega
  ·split <;>simp
theorem zF2:∀ (b a:yC),(zgy a b).length<=a.length+b.length
 | [],a=>by simp [zgy]
 | t::r,a=>by
  have h1:=zF2 r (zj8 t a);have h2:=z1T (t:=t) a;show (zgy (zj8 t a) r).length<=_;simp only [qf]; omega
def cF (x y:Fc):Int:=zbi (zdZ x.At) (zdZ y.At)
theorem zbdL {x y:Fc} (h:cF x y=0):x.At=y.At:=z6S _ _ (zxe _ _ h)
theorem zbi6 (x y:Fc):cF y x= - cF x y:=zfb _ _
theorem zbac {a b c:TT} (h1:zbi a b<0) (h2:zbi b c<0):zbi a c<0:=by
 have h:=zuJ a b c (by omega) (by omega)
 by_cases e:zbi a c=0
 ·have e':=zxe a c e;subst e';have:=zfb a b;omega
 ·omega
theorem zIP {x y z:Fc} (h1:cF x y<0) (h2:cF y z<0):cF x z<0:=zbac h1 h2
abbrev Srf (l:yD):Prop:=l.Pairwise λx y=>cF x y<0
def zLD (f:Fc):yD->yD
 | []=>[f]
 | x::r=>if cF x f<0 then x::zLD f r else if cF x f=0 then (if f.At.Kind<3 then ⟨f.At,x.Exp+f.Exp⟩ else f)::r else f::x::r
def zbR:yD->yD->yD
 | [],b=>b
 | x::a,[]=>x::a
 | x::a,y::b=>if cF x y<0 then x::zbR a (y::b) else if 0<cF x y then y::zbR (x::a) b else (if x.At.Kind=3\/x.At.Kind=4 then x else ⟨x.At,x.Exp+y.Exp⟩)::zbR a b
termination_by a b=>a.length+b.length
theorem zRJ (a:yD):zbR a []=a:=by cases a <;>rw [zbR]
theorem zOi {m:Fc} {L b:yD} (h:∀ z∈b,cF m z<0):zbR (m::L) b=m::zbR L b:=by
 cases b with
 | nil=>rw [zRJ,zRJ]
 | cons z b=>rw [zbR,if_pos (h z (by simp))]
def eOK (f:Fc):Prop:=(0<=f.At.Kind/\f.At.Kind<=4)/\(f.At.Kind=3\/f.At.Kind=4->f.Exp=1)
theorem zbb4 {y:Fc} {b:yD} (hb:∀ z∈b,cF y z<0) (hy:eOK y):∀ {a:yD},(∀ x∈a,eOK x)->zbR (zLD y a) b=zbR a (y::b)
 | [],_=>by
  rw [zLD,zOi hb,zbR,zbR]
 | x::a,ha=>by
  unfold zLD;by_cases h1:cF x y<0
  ·rw [if_pos h1,zOi λz hz=>zIP h1 (hb z hz),zbb4 hb hy λz hz=>ha z (by simp [hz]),zOi (m:=x) (b:=y::b) λz hz=>by
    rcases qd.1 hz with rfl | hz
    ·exact h1
    ·exact zIP h1 (hb z hz)]
  ·rw [if_neg h1];by_cases h2:cF x y=0
   ·have ea:=zbdL h2
    rw [if_pos h2,zOi λz hz=>by
     have e:(if y.At.Kind<3 then (⟨y.At,x.Exp+y.Exp⟩:Fc) else y).At=y.At:=by split <;>rfl
     have:=hb z hz;unfold cF at this ⊢; rw [e]; exact this]
    rw [zbR,if_neg h1,if_neg (show ¬ 0<cF x y by omega)]
    congr 1;have hx:=ha x (by simp)
    obtain ⟨xa,xe⟩:=x;obtain ⟨ya,ye⟩:=y;simp only at ea;subst ea;obtain ⟨⟨k0,k4⟩,h3⟩:=hx;obtain ⟨_,h3'⟩:=hy;simp only at k0 k4 h3 h3' ⊢;by_cases hk:xa.Kind<3
    ·rw [if_pos hk,if_neg (by omega)]
    ·have hk':xa.Kind=3\/xa.Kind=4:=by omega
     rw [if_neg hk,if_pos hk',h3 hk',h3' hk']
   ·rw [if_neg h2,zOi hb];rw [zbR,if_neg h1,if_pos (by omega)]
theorem zVp:∀ (b a:yD),Srf b->(∀ x∈a,eOK x)->(∀ x∈b,eOK x)->b.foldl (λl f=>zLD f l) a=zbR a b
 | [],a,_,_,_=>by rw [zRJ]; rfl
 | y::b,a,hs,ha,hb=>by
  have hc:=qi.1 hs;have hy:=hb y (by simp)
  rw [List.foldl_cons,zVp b (zLD y a) hc.2 (λx hx=> ?_) λx hx=>hb x (by simp [hx]),zbb4 hc.1 hy ha]
  -- kinds and exponents are kept
  clear hs hc hb;induction a with
  | nil=>simp only [zLD,qh] at hx; subst hx; exact hy
  | cons z r ih=>
   unfold zLD at hx;split at hx
   ·rcases qd.1 hx with rfl | hx
    ·exact ha _ (by simp)
    ·exact ih (λw hw=>ha w (by simp [hw])) hx
   ·split at hx
    ·rcases qd.1 hx with rfl | hx
     ·split
      ·rename_i hk; exact ⟨hy.1,λh=>by simp only at h; omega⟩
      ·exact hy
     ·exact ha x (by simp [hx])
    ·rcases qd.1 hx with rfl | hx
     ·exact hy
     ·exact ha x hx
theorem zvt {x:Fc}:∀ {a b:yD},x∈zbR a b->∃ y,(y∈a\/y∈b)/\x.At=y.At
 | [],b,h=>⟨x,.inr (by rwa [zbR] at h),rfl⟩
 | y::a,[],h=>⟨x,.inl (by rwa [zbR] at h),rfl⟩
 | y::a,z::b,h=>by
  rw [zbR] at h;split at h
  ·rcases qd.1 h with rfl | h
   ·exact ⟨x,.inl (by simp),rfl⟩
   ·obtain ⟨w,hw,e⟩:=zvt h;rcases hw with hw | hw
    ·exact ⟨w,.inl (by simp [hw]),e⟩
    ·exact ⟨w,.inr hw,e⟩
  ·split at h
   ·rcases qd.1 h with rfl | h
    ·exact ⟨x,.inr (by simp),rfl⟩
    ·obtain ⟨w,hw,e⟩:=zvt h;rcases hw with hw | hw
     ·exact ⟨w,.inl hw,e⟩
     ·exact ⟨w,.inr (by simp [hw]),e⟩
   ·rcases qd.1 h with rfl | h
    ·exact ⟨y,.inl (by simp),by split <;>rfl⟩
    ·obtain ⟨w,hw,e⟩:=zvt h;rcases hw with hw | hw
     ·exact ⟨w,.inl (by simp [hw]),e⟩
     ·exact ⟨w,.inr (by simp [hw]),e⟩
termination_by a b=>a.length+b.length
theorem zQa:∀ (a b:yD),(zbR a b).length<=a.length+b.length
 | [],b=>by rw [zbR]; simp
 | y::a,[]=>by rw [zbR]; simp
 | y::a,z::b=>by
  rw [zbR];split
  ·have:=zQa a (z::b); simp only [qf] at this ⊢; omega
  ·split
   ·have:=zQa (y::a) b; simp only [qf] at this ⊢; omega
   ·have:=zQa a b; simp only [qf] at this ⊢; omega
termination_by a b=>a.length+b.length
theorem zO5 {x:Fc} {B:Int}:∀ {a b:yD},(∀ y∈a,1<=y.Exp/\y.Exp<=B)->(∀ y∈b,1<=y.Exp/\y.Exp<=B)->x∈zbR a b->1<=x.Exp/\x.Exp<=2*B
 | [],b,ha,hb,h=>by rw [zbR] at h; have:=hb x h; omega
 | y::a,[],ha,hb,h=>by rw [zbR] at h; have:=ha x h; omega
 | y::a,z::b,ha,hb,h=>by
  have hy:=ha y (by simp)
  have hz:=hb z (by simp)
  rw [zbR] at h;split at h
  ·rcases qd.1 h with rfl | h
   ·omega
   ·exact zO5 (λw hw=>ha w (by simp [hw])) hb h
  ·split at h
   ·rcases qd.1 h with rfl | h
    ·omega
    ·exact zO5 ha (λw hw=>hb w (by simp [hw])) h
   ·rcases qd.1 h with rfl | h
    ·split
     ·omega
     ·simp only; omega
    ·exact zO5 (λw hw=>ha w (by simp [hw])) (λw hw=>hb w (by simp [hw])) h
termination_by a b=>a.length+b.length
def zCV (a b:Int):Int:=if Int.tdiv 1152921504606846976 b<a then 1152921504606846976 else a*b
def zna (x y:Term):Term:=⟨zCV x.Cf y.Cf,zbR x.Fs y.Fs⟩
def zfw (a b:yC):yC:=a.flatMap λx=>b.map (zna x)
def zqO (a b:yC):yC:=zgy [] (zfw a b)
theorem z57 {a b:Int} (ha:1<=a/\a<=1152921504606846976) (hb:1<=b/\b<=1152921504606846976):(1<=zCV a b/\zCV a b<=1152921504606846976)/\(¬ Int.tdiv 1152921504606846976 b<a->a*b<=1152921504606846976):=by
 have h1:¬ Int.tdiv 1152921504606846976 b<a->a*b<=1152921504606846976:=λh=>by
  rw [Int.tdiv_eq_ediv_of_nonneg (by omega)] at h
  have h2:a<=1152921504606846976 / b:=by omega
  exact (Int.le_ediv_iff_mul_le (by omega)).1 h2
 refine ⟨?_,h1⟩;unfold zCV;split
 ·omega
 ·rename_i h;refine ⟨?_,h1 h⟩;have:=Int.mul_le_mul ha.1 hb.1 (by omega) (by omega)
  omega
theorem z84 {t:Term} {a b:yC} (h:t∈zfw a b):∃ x∈a,∃ y∈b,t=zna x y:=by
 obtain ⟨x,hx,ht⟩:=List.mem_flatMap.1 h;obtain ⟨y,hy,rfl⟩:=List.mem_map.1 ht;exact ⟨x,hx,y,hy,rfl⟩
theorem zRe (a b:yC):(zfw a b).length=a.length*b.length:=by
 unfold zfw;induction a with
 | nil=>simp
 | cons x r ih=>rw [List.flatMap_cons,qg,ih,List.length_map,qf,Nat.add_mul]; omega
section
variable (g:yC->Bool×yC)
theorem zbk0 (l:yA) (hl:l.length<=1000000) (hg:∀ a∈l,g a=(true,a)) (n:Nat) (hn:l.length<n) (x0 x1 x2 x3:Int) (x4:yE) (x5 x6 x7:Int) (x8:ByteArray) (t0 t1 t2 t3 t4 t5 t6:Int) (t7:ByteArray):
  zzY g n l.length 0 x0 x1 x2 x3 x4 x5 x6 x7 x8 t0 t1 t2 t3 t4 t5 t6 t7 l=(true,(x0,x1,x2,x3,x4,x5,x6,x7,x8,t0,t1,t2,t3,t4,t5,t6,t7,l)):=by
 have:=zeb (W:=zpT g) (z:=default) l.length (λi=>((),(),(l.length:Int),(i:Int),())) (λ_=>((x0,x1,x2,(),x3,x4,x5,x6,x7,x8,()),(t0,t1,t2,(),t3,(),t4,t5,t6,t7,()),l,())) (λ_=>true) default (x0,x1,x2,x3,x4,x5,x6,x7,x8,t0,t1,t2,t3,t4,t5,t6,t7,l)
  (λi hi H K D=>by
   show (zhj g l.length i x0 x1 x2 x3 x4 x5 x6 x7 x8 t0 t1 t2 t3 t4 t5 t6 t7 l).ev H K D=_;unfold zhj;simp only [Wy.ev_i,Wy.ev_k,Wy.ev_h,Wy.ev_bn,Wy.ev_d,tT,hi,hg _ (zp hi)];rw [zN (by omega),z4b hi])
  (λH K D=>by
   show (zhj g l.length l.length x0 x1 x2 x3 x4 x5 x6 x7 x8 t0 t1 t2 t3 t4 t5 t6 t7 l).ev H K D=_;unfold zhj;simp only [Wy.ev_i,Wy.ev_k,tT,Nat.lt_irrefl]) n hn
 rw [show zfk (λ_=>true) l.length 0=true from zev.2 λ_ _ _=>rfl] at this
 exact this
theorem zbk2 (l:yE) (hl:l.length<=1000000) (hg:∀ a∈l,g a.Ann=(true,a.Ann)) (n:Nat) (hn:l.length<n) (x0 x1 x2 x3 x4 x5 x6:Int) (x7:ByteArray) (t0 t1 t2 t3 t4 t5 t6:Int) (t7:ByteArray) (b2:yA):
  zAe g n l.length 0 x0 x1 x2 x3 x4 x5 x6 x7 t0 t1 t2 t3 t4 t5 t6 t7 b2 l=(true,(x0,x1,x2,x3,x4,x5,x6,x7,t0,t1,t2,t3,t4,t5,t6,t7,b2,l)):=by
 have:=zeb (W:=zp1 g) (z:=default) l.length (λi=>((),(),(l.length:Int),(i:Int),())) (λ_=>((x0,x1,x2,(),x3,(),x4,x5,x6,x7,()),(t0,t1,t2,(),t3,(),t4,t5,t6,t7,()),b2,l,())) (λ_=>true) default (x0,x1,x2,x3,x4,x5,x6,x7,t0,t1,t2,t3,t4,t5,t6,t7,b2,l)
  (λi hi H K D=>by
   show (zhh g l.length i x0 x1 x2 x3 x4 x5 x6 x7 t0 t1 t2 t3 t4 t5 t6 t7 b2 l).ev H K D=_;unfold zhh;simp only [Wy.ev_i,Wy.ev_k,Wy.ev_h,Wy.ev_bn,Wy.ev_d,tT,hi,hg _ (zp hi)];have:l.set i (⟨(l.getD i default).Value,(l.getD i default).Ann⟩:Wd)=l:=z4b hi;rw [zN (by omega),this])
  (λH K D=>by
   show (zhh g l.length l.length x0 x1 x2 x3 x4 x5 x6 x7 t0 t1 t2 t3 t4 t5 t6 t7 b2 l).ev H K D=_;unfold zhh;simp only [Wy.ev_i,Wy.ev_k,tT,Nat.lt_irrefl]) n hn
 rw [show zfk (λ_=>true) l.length 0=true from zev.2 λ_ _ _=>rfl] at this
 exact this
theorem z6c (x:At) (h1:x.Ag.length<=1000000) (h2:x.Items.length<=1000000) (hg:∀ a∈x.Ag,g a=(true,a)) (hgi:∀ w∈x.Items,g w.Ann=(true,w.Ann)):zj0 g x=(true,x):=by
 have hreach:zO=70368744177664:=rfl;unfold zj0 zBw zeh ze1
 have e1:∀ k:Nat,k<=1000->decide (x.Ag.length*k<=zO)=true:=λk hk=>by
  have:=Nat.mul_le_mul h1 hk;simp only [qe]; omega
 have e2:∀ k:Nat,k<=1000->decide (x.Items.length*k<=zO)=true:=λk hk=>by
  have:=Nat.mul_le_mul h2 hk;simp only [qe]; omega
 simp only [Wy.fin_bn,Wy.fin_k,e1 _ (by omega:24<=1000),e2 _ (by omega:56<=1000),Int.ofNat_eq_natCast,cond_true]
 rw [zbk0 g _ h1 hg _ (by omega)]
 simp only [cond_true,e2 _ (by omega:56<=1000)]
 rw [zbk2 g _ h2 hgi _ (by omega)]
 simp only [cond_true];cases x; rfl
theorem zbc9 (gx:At->Bool×At) (a:yC) (hl:a.length<=1000000) (hg:∀ t∈a,t.Fs.length<=1000000/\∀ f∈t.Fs,gx f.At=(true,f.At)):zns gx a=(true,a):=by
 unfold zns zFM;have:=zblA gx a hl hg (a.length+(Int.ofNat a.length).toNat +Int.toNat (0:Int)+(0:Nat)+(1:Nat)) (by omega)
 rw [show Int.ofNat a.length=(a.length:Int) from rfl] at *
 rw [Wy.fin_bn,this]; rfl
end
theorem z5Q:∀ n,
  (∀ d a,zo d a->2*d<=n->znG n a=(true,a))/\
  (∀ d x,zdf (zo d) x->2*d+1<=n->zng n x=(true,x))
 | 0=>by
  refine ⟨λd a h hd=> ?_,λd x h hd=>by omega⟩
  have:d=0:=by omega
  subst this; exact h.elim
 | n+1=>by
  obtain ⟨h1,h2⟩:=z5Q n;refine ⟨λd a h hd=> ?_,λd x h hd=> ?_⟩
  ·cases d with
   | zero=>exact h.elim
   | succ d=>
    rw [zSc];exact zbc9 _ a h.1 λt ht=>⟨(h.2 t ht).1,λf hf=>h2 d _ ((h.2 t ht).2 f hf) (by omega)⟩
  ·rw [zMp];exact z6c _ x h.1.1 h.1.2.1 (λa ha=>h1 d a (h.2.1 a ha) (by omega)) λw hw=>h1 d _ (h.2.2 w hw).2 (by omega)
theorem zKX {d:Nat} {a:yC} (h:zo d a) (hd:d<=100):zhz a=(true,a):=(z5Q 1000).1 d a h (by omega)
def zoH (a:yC):yC×Int:=bif zf4 a then (a,0) else ([],6)
theorem zDD {d:Nat} {a:yC} (h:zo d a) (hd:d<=100) (hs:zL a<=4611686018427387904):zeW a=(true,zoH a):=by
 unfold zeW zHw zoH;simp only [Wy.fin_bn,Wy.fin_i,Wy.fin_k,z9c h hd hs,zKX h hd,cond_true];cases zf4 a <;>rfl
theorem zC8 {d:Nat} {a:yC} (h:zo d a) (hd:d<=100) (hs:zL a<=4611686018427387904):zoJ a=(true,zoH a):=by
 unfold zoJ z3N zoH;simp only [Wy.fin_bn,Wy.fin_i,Wy.fin_k,zbd6 h hd hs,cond_true];cases zf4 a <;>rfl
def zcB (x:At):yC:=[⟨1,[⟨x,1⟩]⟩]
theorem zKL (x:At):(zf8 x).2=zcB x:=by
 unfold zf8 zIz;rw [At.eta]; rfl
theorem zGa (x:At):(zoc x).2=zcB x:=by
 unfold zoc zY3;rw [At.eta]; rfl
theorem zQ3 {d:Nat} {x:At} (h:zdf (zo d) x):zo (d+1) (zcB x):=by
 refine ⟨by simp [zcB],λt ht=> ?_⟩
 simp only [zcB,qh] at ht;subst ht;refine ⟨by simp,λf hf=> ?_⟩
 simp only [qh] at hf;subst hf; exact h
theorem z5p (x:At):zL (zcB x)=2+zfK x:=by
 rw [zcB,zeX,zuZ,zdv,zjC];simp only [List.length_singleton]; omega
section
variable {τ:Type} [Inhabited τ]
theorem z0i (A B:List τ) (x:τ):(A++x::B).getD A.length default=x:=by
 rw [List.getD_eq_getElem?_getD,List.getElem?_append_right (Nat.le_refl _)]; simp
theorem z0L (A B:List τ) (x y:τ):(A++x::B).set A.length y=A++y::B:=by
 rw [List.set_append_right _ _ (Nat.le_refl _)]; simp
theorem z1y (A B C:List τ) (x y:τ):(A++x::(B++y::C)).getD (A.length+1+B.length) default=y:=by
 have:=z0i (A++x::B) C y;rw [qg,qf,show A.length+(B.length+1)=A.length+1+B.length by omega,List.append_assoc,List.cons_append] at this
 exact this
theorem z1G (A B C:List τ) (x y z:τ):(A++x::(B++y::C)).set (A.length+1+B.length) z=A++x::(B++z::C):=by
 have:=z0L (A++x::B) C y z;rw [qg,qf,show A.length+(B.length+1)=A.length+1+B.length by omega,List.append_assoc,List.cons_append,List.append_assoc,List.cons_append] at this
 exact this
def swD (P X M Y S:List τ) (i:Nat):List τ:=P++Y.take i++X.drop i++M++X.take i++Y.drop i++S
theorem zbfx {P X M Y S:List τ} {i:Nat} (hx:X.length=Y.length) (hi:i<X.length):
  swD P X M Y S i=(P++Y.take i)++X.getD i default::((X.drop (i+1)++M++X.take i)++Y.getD i default::(Y.drop (i+1)++S)):=by
 unfold swD;rw [zbC hi,zbC (show i<Y.length by omega)]
 simp only [List.append_assoc,List.cons_append]
theorem zbg2 {P X M Y S:List τ} {i:Nat} (hx:X.length=Y.length) (hi:i<X.length):
  swD P X M Y S (i+1)=(P++Y.take i)++Y.getD i default::((X.drop (i+1)++M++X.take i)++X.getD i default::(Y.drop (i+1)++S)):=by
 unfold swD;rw [zho hi,zho (show i<Y.length by omega)]
 simp only [List.append_assoc,List.cons_append,List.nil_append]
end
theorem zbfg (P X M Y S:yE) (hx:X.length=Y.length) (hN:(P++X++M++Y++S).length<=1000000) (a b n:Int) (ha:a=(P.length:Int)) (hb:b=((P.length+X.length+M.length:Nat):Int)) (hn:n=(X.length:Int)):
  zcr (P++X++M++Y++S) a b n=(true,P++Y++M++X++S):=by
 subst ha hb hn;simp only [qg] at hN;unfold zcr znu
 have h:=zeb (W:=zhg) (z:=default) X.length (λi=>((),(P.length:Int),((P.length+X.length+M.length:Nat):Int),(X.length:Int),(i:Int),())) (λi=>(swD P X M Y S i,())) (λ_=>true) default (P++Y++M++X++S)
  (λi hi H K D=>by
   show (zdy P.length (P.length+X.length+M.length:Nat) X.length i (swD P X M Y S i)).ev H K D=_;unfold zdy;have hlt:List.length (X.take i)=i:=by rw [List.length_take]; omega
   have hlt2:List.length (Y.take i)=i:=by rw [List.length_take]; omega
   have wa:IntKind.i64.wrap ((P.length:Int)+(i:Int))=(((P++Y.take i).length:Nat):Int):=by rw [zcf (by omega) (by omega),qg,hlt2]; omega
   have wb:IntKind.i64.wrap (((P.length+X.length+M.length:Nat):Int)+(i:Int))=(((P++Y.take i).length+1+(X.drop (i+1)++M++X.take i).length:Nat):Int):=by
    rw [zcf (by omega) (by omega)]
    simp only [qg,List.length_drop,hlt,hlt2]; omega
   rw [zbfx hx hi,wa,wb];generalize hA:P++Y.take i=A;generalize hB:X.drop (i+1)++M++X.take i=B;generalize hC:Y.drop (i+1)++S=C;generalize hxx:X.getD i default=x;generalize hyy:Y.getD i default=y;have l1:(A++x::(B++y::C)).length=A.length+1+B.length+1+C.length:=by simp only [qg,qf]; omega
   have l2:(A++y::(B++y::C)).length=A.length+1+B.length+1+C.length:=by simp only [qg,qf]; omega
   have g1:(decide ((0:Int)<=((A.length+1+B.length:Nat):Int))&&decide (((A.length+1+B.length:Nat):Int)<Int.ofNat (A++x::(B++y::C)).length))=true:=by rw [l1]; simp only [qc,qe,Int.ofNat_eq_natCast]; omega
   have g2:(decide ((0:Int)<=((A.length:Nat):Int))&&decide (((A.length:Nat):Int)<Int.ofNat (A++x::(B++y::C)).length))=true:=by rw [l1]; simp only [qc,qe,Int.ofNat_eq_natCast]; omega
   have g3:decide (A.length<(A++x::(B++y::C)).length)=true:=by rw [l1,qe]; omega
   have g4:(decide ((0:Int)<=((A.length+1+B.length:Nat):Int))&&decide (((A.length+1+B.length:Nat):Int)<Int.ofNat (A++y::(B++y::C)).length))=true:=by rw [l2]; simp only [qc,qe,Int.ofNat_eq_natCast]; omega
   have g5:decide (A.length+1+B.length<(A++y::(B++y::C)).length)=true:=by rw [l2,qe]; omega
   have gi:decide ((i:Int)<(X.length:Int))=true:=by rw [qe]; omega
   simp only [Wy.ev_i,Wy.ev_k,Wy.ev_h,Wy.ev_bn,Wy.ev_d,Int.toNat_natCast,gi,g1,g2,g3,z1y,z0i,z0L,g4,g5,z1G,cond_true];rw [zN (by omega),zbg2 hx hi,hA,hB,hC,hxx,hyy])
  (λH K D=>by
   show (zdy P.length (P.length+X.length+M.length:Nat) X.length X.length (swD P X M Y S X.length)).ev H K D=_;unfold zdy;have gi:decide ((X.length:Int)<(X.length:Int))=false:=by rw [decide_eq_false_iff_not]; omega
   have e:swD P X M Y S X.length=P++Y++M++X++S:=by
    unfold swD;rw [List.drop_length,List.take_length,hx,List.take_length,List.drop_length]; simp
   simp only [Wy.ev_i,Wy.ev_k,gi,cond_false,e])
  (Int.toNat (P.length:Int)+Int.toNat ((P.length+X.length+M.length:Nat):Int)+Int.toNat (X.length:Int)+Int.toNat (0:Int)+(P++X++M++Y++S).length+(1000:Nat)) (by simp only [Int.toNat_natCast]; omega)
 rw [show zfk (λ_=>true) X.length 0=true from zev.2 λ_ _ _=>rfl] at h
 have e0:swD P X M Y S 0=P++X++M++Y++S:=by unfold swD; simp
 rw [e0] at h;have h:zmO (Int.toNat (P.length:Int)+Int.toNat ((P.length+X.length+M.length:Nat):Int)+Int.toNat (X.length:Int)+Int.toNat (0:Int)+(P++X++M++Y++S).length+(1000:Nat)) P.length (P.length+X.length+M.length:Nat) X.length 0 (P++X++M++Y++S)=_:=h;rw [Wy.fin_bn,h]; rfl
theorem z49 (T:yE) (m:Nat) (hm:m<=1000000):∀ (n:Nat) (A X Y B:yE),(A++X++Y++B).length<=1000000->A.length+X.length=m->0<X.length->0<Y.length->X.length+Y.length<=n->A++Y++X++B=T->
  ∃ A' X' Y' B',zi2 n m X.length Y.length (A++X++Y++B)=(true,((m:Int),(X'.length:Int),A'++X'++Y'++B'))/\X'.length=Y'.length/\A'.length+X'.length=m/\(A'++X'++Y'++B').length<=1000000/\A'++Y'++X'++B'=T
 | 0,A,X,Y,B,_,_,h1,h2,h3,_=>by omega
 | n+1,A,X,Y,B,hN,hA,hX,hY,hn,hT=>by
  show ∃ A' X' Y' B',(ziT m X.length Y.length (A++X++Y++B)).ev (λx y=>zi2 n x.2.1 x.2.2.2.1 x.2.2.2.2.1 y.1) (λr=>(true,r)) (false,default)=_/\_
  unfold ziT;simp only [qg] at hN;by_cases hij:X.length=Y.length
  ·have e:((X.length:Int) != (Y.length:Int))=false:=by rw [hij]; simp
   simp only [Wy.ev_i,Wy.ev_k,e,cond_false];exact ⟨A,X,Y,B,rfl,hij,hA,by simp only [qg]; omega,hT⟩
  ·have e:((X.length:Int) != (Y.length:Int))=true:=by rw [bne_iff_ne]; omega
   by_cases hgt:Y.length<X.length
   ·have e2:decide ((X.length:Int)>(Y.length:Int))=true:=by rw [qe]; omega
    have hs:=zbfg A (X.take Y.length) (X.drop Y.length) Y B (by rw [List.length_take]; omega) (by simp only [qg,List.length_take,List.length_drop]; omega) (IntKind.i64.wrap ((m:Int) - (X.length:Int))) (m:Int) (Y.length:Int)
     (by rw [zcf (by omega) (by omega)]; omega) (by rw [List.length_take,List.length_drop]; omega) (by rw [List.length_take]; omega)
    have ed:A++X.take Y.length++X.drop Y.length++Y++B=A++X++Y++B:=by rw [List.append_assoc A,List.take_append_drop]
    rw [ed] at hs;simp only [Wy.ev_i,Wy.ev_k,Wy.ev_h,Wy.ev_bn,e,e2,hs,cond_true];have wx:IntKind.i64.wrap ((X.length:Int) - (Y.length:Int))=((X.drop Y.length).length:Int):=by rw [zcf (by omega) (by omega),List.length_drop]; omega
    have wy:(Y.length:Int)=((X.take Y.length).length:Int):=by rw [List.length_take]; omega
    rw [wx]
    have ih:=z49 T m hm n (A++Y) (X.drop Y.length) (X.take Y.length) B (by simp only [qg,List.length_take,List.length_drop]; omega) (by simp only [qg,List.length_drop]; omega) (by rw [List.length_drop]; omega) (by rw [List.length_take]; omega) (by rw [List.length_drop,List.length_take]; omega)
     (by rw [<- hT]; (conv=>rhs; rw [<- List.take_append_drop Y.length X]); simp only [List.append_assoc])
    rw [<- wy] at ih;exact ih
   ·have e2:decide ((X.length:Int)>(Y.length:Int))=false:=by rw [decide_eq_false_iff_not]; omega
    have hs:=zbfg A X (Y.take (Y.length - X.length)) (Y.drop (Y.length - X.length)) B (by rw [List.length_drop]; omega) (by simp only [qg,List.length_take,List.length_drop]; omega) (IntKind.i64.wrap ((m:Int) - (X.length:Int))) (IntKind.i64.wrap (IntKind.i64.wrap ((m:Int)+(Y.length:Int)) - (X.length:Int))) (X.length:Int)
     (by rw [zcf (by omega) (by omega)]; omega) (by rw [zcf (z:=(m:Int)+(Y.length:Int)) (by omega) (by omega),zcf (by omega) (by omega),List.length_take]; omega) rfl
    have ed:A++X++Y.take (Y.length - X.length)++Y.drop (Y.length - X.length)++B=A++X++Y++B:=by rw [List.append_assoc (A++X),List.take_append_drop]
    rw [ed] at hs;simp only [Wy.ev_i,Wy.ev_k,Wy.ev_h,Wy.ev_bn,e,e2,hs,cond_true,cond_false];have wx:IntKind.i64.wrap ((Y.length:Int) - (X.length:Int))=((Y.take (Y.length - X.length)).length:Int):=by rw [zcf (by omega) (by omega),List.length_take]; omega
    have wy:(X.length:Int)=((Y.drop (Y.length - X.length)).length:Int):=by rw [List.length_drop]; omega
    rw [wx]
    have ih:=z49 T m hm n A (Y.drop (Y.length - X.length)) (Y.take (Y.length - X.length)) (X++B) (by simp only [qg,List.length_take,List.length_drop]; omega) (by rw [List.length_drop]; omega) (by rw [List.length_drop]; omega) (by rw [List.length_take]; omega) (by rw [List.length_drop,List.length_take]; omega)
     (by rw [<- hT]; (conv=>rhs; rw [<- List.take_append_drop (Y.length - X.length) Y]); simp only [List.append_assoc])
    rw [<- wy] at ih
    simpa only [List.append_assoc] using ih
theorem zblr (P X Y S:yE) (hN:(P++X++Y++S).length<=1000000) (h1:0<X.length) (h2:0<Y.length) (a m b:Int) (ha:a=(P.length:Int)) (hm:m=((P.length+X.length:Nat):Int)) (hb:b=((P.length+X.length+Y.length:Nat):Int)):
  zcR (P++X++Y++S) a m b=(true,P++Y++X++S):=by
 subst ha hm hb;have hN':=hN;simp only [qg] at hN';unfold zcR zpA;have w1:IntKind.i64.wrap (((P.length+X.length:Nat):Int) - (P.length:Int))=(X.length:Int):=by rw [zcf (by omega) (by omega)]; omega
 have w2:IntKind.i64.wrap (((P.length+X.length+Y.length:Nat):Int) - ((P.length+X.length:Nat):Int))=(Y.length:Int):=by rw [zcf (by omega) (by omega)]; omega
 rw [w1,w2];obtain ⟨A,X',Y',B,e,k1,k2,k3,k4⟩:=z49 (P++Y++X++S) (P.length+X.length) (by omega) (Int.toNat ((P.length+X.length:Nat):Int)+Int.toNat (X.length:Int)+Int.toNat (Y.length:Int)+(P++X++Y++S).length+(1000:Nat)) P X Y S hN rfl h1 h2 (by simp only [qg,Int.toNat_natCast]; omega) rfl
 rw [Wy.fin_bn,e];have k3':=k3;simp only [qg] at k3';have hs:=zbfg A X' [] Y' B k1 (by simp only [qg,List.length_nil]; omega) (IntKind.i64.wrap (((P.length+X.length:Nat):Int) - (X'.length:Int))) ((P.length+X.length:Nat):Int) (X'.length:Int) (by rw [zcf (by omega) (by omega)]; omega) (by simp only [List.length_nil]; omega) rfl
 rw [List.append_nil,List.append_nil] at hs;simp only [cond_true];rw [Wy.fin_bn,hs,k4]; rfl
theorem z1O {i j:Nat} (h:i+j<=4000000):IntKind.i64.wrap ((IntKind.u64.wrap (IntKind.i64.wrap ((i:Int)+(j:Int)))).fdiv ((2:Int) ^ min (Int.toNat (1:Int)) IntKind.u64.bits))=(((i+j) / 2:Nat):Int):=by
 have e1:IntKind.i64.wrap ((i:Int)+(j:Int))=((i+j:Nat):Int):=by rw [zcf (by omega) (by omega)]; omega
 have e2:IntKind.u64.wrap ((i+j:Nat):Int)=((i+j:Nat):Int):=by
  simp only [IntKind.wrap,IntKind.bits,IntKind.signed];simp;omega
 have e3:((2:Int) ^ min (Int.toNat (1:Int)) IntKind.u64.bits)=2:=by decide
 rw [e1,e2,e3]
 have e4:(((i+j:Nat):Int)).fdiv 2=(((i+j) / 2:Nat):Int):=by
  rw [Int.fdiv_eq_ediv_of_nonneg _ (by omega)]; omega
 rw [e4,zcf (by omega) (by omega)]
structure CW (U:Wd->Prop):Prop where
 ends : ∀ x y, U x -> U y -> ∃ z, zbQ x y = (true, z)
def ltW (x y:Wd):Prop:=(zbQ x y).2<0
theorem CW.eq {U:Wd->Prop} (h:CW U) {x y:Wd} (hx:U x) (hy:U y):zbQ x y=(true,(zbQ x y).2):=by
 obtain ⟨z,e⟩:=h.ends x y hx hy;rw [e]
theorem zbh4 {U:Wd->Prop} (hU:CW U) (P S:yE) (a b i:Int) (ha:a=(P.length:Int)):∀ (n:Nat) (L R:yE) (x:Wd),(P++L++x::(R++S)).length<=1000000->L.length<n->U x->(∀ y∈L,U y)->
  ∃ L' R',zfY n a b i ((P.length+L.length:Nat):Int) (P++L++x::(R++S))=(true,(a,b,i,P++L'++x::(R'++S)))/\L'++R'=L++R/\(∀ r∈R',r∈R\/ltW x r)/\(L'=[]\/∃ L0 y,L'=L0++[y]/\¬ ltW x y)
 | 0,L,R,x,hN,hn,_,_=>by omega
 | n+1,L,R,x,hN,hn,hx,hL=>by
  subst ha;simp only [qg,qf] at hN;show ∃ L' R',(zfW P.length b i (P.length+L.length:Nat) (P++L++x::(R++S))).ev (λx y=>zfY n x.2.1 x.2.2.1 x.2.2.2.2.1 x.2.2.2.2.2.1 y.1) (λr=>(true,r)) (false,default)=_/\_
  unfold zfW;rcases List.eq_nil_or_concat L with rfl | ⟨L0,y,rfl⟩
  ·have e:decide (((P.length+([]:yE).length:Nat):Int)>(P.length:Int))=false:=by rw [decide_eq_false_iff_not]; simp
   simp only [Wy.ev_i,Wy.ev_k,e,cond_false];exact ⟨[],R,rfl,rfl,λr hr=>.inl hr,.inl rfl⟩
  ·rw [List.concat_eq_append] at *;simp only [qg,List.length_singleton] at hN hn;have e:decide (((P.length+(L0++[y]).length:Nat):Int)>(P.length:Int))=true:=by rw [qe]; simp; omega
   have ed:P++(L0++[y])++x::(R++S)=(P++L0)++y::([]++x::(R++S)):=by simp
   have ej:((P.length+(L0++[y]).length:Nat):Int)=(((P++L0).length+1+([]:yE).length:Nat):Int):=by simp; omega
   have wj:IntKind.i64.wrap ((((P++L0).length+1+([]:yE).length:Nat):Int) - 1)=(((P++L0).length:Nat):Int):=by
    simp only [qg,List.length_nil];rw [zcf (by omega) (by omega)]; omega
   have hlen:∀ u v:Wd,((P++L0)++u::([]++v::(R++S))).length=P.length+L0.length+1+1+R.length+S.length:=λu v=>by simp only [qg,qf,List.length_nil]; omega
   have g1:∀ u v:Wd,(decide ((0:Int)<=(((P++L0).length+1+([]:yE).length:Nat):Int))&&decide ((((P++L0).length+1+([]:yE).length:Nat):Int)<Int.ofNat ((P++L0)++u::([]++v::(R++S))).length))=true:=λu v=>by
    rw [hlen]; simp only [qc,qe,Int.ofNat_eq_natCast,qg,List.length_nil]; omega
   have g2:∀ u v:Wd,(decide ((0:Int)<=(((P++L0).length:Nat):Int))&&decide ((((P++L0).length:Nat):Int)<Int.ofNat ((P++L0)++u::([]++v::(R++S))).length))=true:=λu v=>by
    rw [hlen]; simp only [qc,qe,Int.ofNat_eq_natCast,qg]; omega
   have g3:∀ u v:Wd,decide ((P++L0).length+1+([]:yE).length<((P++L0)++u::([]++v::(R++S))).length)=true:=λu v=>by
    rw [hlen,qe]; simp only [qg,List.length_nil]; omega
   have g4:∀ u v:Wd,decide ((P++L0).length<((P++L0)++u::([]++v::(R++S))).length)=true:=λu v=>by
    rw [hlen,qe]; simp only [qg]; omega
   obtain ⟨z,ez⟩:=hU.ends x y hx (hL y (by simp))
   have hz:ltW x y↔z<0:=by unfold ltW; rw [ez]
   rw [e,ed,ej,wj];simp only [Wy.ev_i,Wy.ev_k,Wy.ev_h,Wy.ev_bn,Wy.ev_d,Int.toNat_natCast,g1,g2,g3,g4,z1y,z0i,z1G,z0L,cond_true,ez];by_cases hlt:z<0
   ·rw [decide_eq_true hlt,cond_true];obtain ⟨L',R',k1,k2,k3,k4⟩:=zbh4 hU P S P.length b i rfl n L0 (y::R) x (by simp only [qg,qf]; omega) (by omega) hx (λz hz=>hL z (by simp [hz]))
    refine ⟨L',R', ?_,by rw [k2]; simp,λr hr=> ?_,k4⟩
    ·rw [<- k1];simp
    ·rcases k3 r hr with h | h
     ·rcases qd.1 h with rfl | h
      ·exact .inr (hz.2 hlt)
      ·exact .inl h
     ·exact .inr h
   ·rw [decide_eq_false hlt,cond_false];refine ⟨L0++[y],R, ?_,rfl,λr hr=>.inl hr,   .inr ⟨L0,y,rfl,λh=>hlt (hz.1 h)⟩⟩
    simp
abbrev zib (l:yE):Prop:=l.Pairwise λx y=>¬ ltW y x
structure OW (U:Wd->Prop):Prop extends CW U where
 asym:∀ x y,U x->U y->ltW x y->¬ ltW y x
 ntr:∀ x y z,U x->U y->U z->¬ ltW x y->¬ ltW y z->¬ ltW x z
theorem zbfc {U:Wd->Prop} (h:OW U) {L R:yE} {x:Wd} (hx:U x) (hL:∀ y∈L++R,U y) (hs:zib (L++R)) (h1:∀ r∈R,ltW x r) (h2:L=[]\/∃ L0 y,L=L0++[y]/\¬ ltW x y):zib (L++x::R):=by
 have hs':=List.pairwise_append.1 hs;refine List.pairwise_append.2 ⟨hs'.1,qi.2 ⟨λr hr=>h.asym x r hx (hL r (by simp [hr])) (h1 r hr),hs'.2.1⟩,λy hy z hz=> ?_⟩
 rcases qd.1 hz with rfl | hz
 ·rcases h2 with rfl | ⟨L0,w,rfl,hw⟩
  ·cases hy
  ·rcases List.mem_append.1 hy with hy | hy
   ·have:=(List.pairwise_append.1 hs'.1).2.2 y hy w (by simp)
    exact h.ntr z w y hx (hL w (by simp)) (hL y (by simp [hy])) hw this
   ·rw [qh.1 hy]; exact hw
 ·exact hs'.2.2 y hy z hz
theorem zbh8 {U:Wd->Prop} (h:OW U) (P S:yE) (a b:Int) (ha:a=(P.length:Int)):∀ (n:Nat) (Z1 Z2:yE),(P++Z1++Z2++S).length<=1000000->b=((P.length+Z1.length+Z2.length:Nat):Int)->Z2.length<n->(∀ y∈Z1,U y)->(∀ y∈Z2,U y)->zib Z1->Z1.length<=900->
  Z1.length+Z2.length<=900->∃ Z,zcY n a b ((P.length+Z1.length:Nat):Int) (P++Z1++Z2++S)=(true,P++Z++S)/\Z.Perm (Z1++Z2)/\zib Z
 | 0,Z1,Z2,hN,hb,hn,_,_,_,_,_=>by omega
 | n+1,Z1,Z2,hN,hb,hn,u1,u2,hs,h9,h99=>by
  simp only [qg] at hN;show ∃ Z,(zcZ a b (P.length+Z1.length:Nat) (P++Z1++Z2++S)).ev (λx y=>zcY n x.2.1 x.2.2.1 x.2.2.2.2.1 y.1) (λr=>(true,r)) (false,default)=_/\_
  unfold zcZ;cases Z2 with
  | nil=>
   have e:decide (((P.length+Z1.length:Nat):Int)<b)=false:=by rw [decide_eq_false_iff_not,hb]; simp
   simp only [Wy.ev_i,Wy.ev_k,e,cond_false];exact ⟨Z1,by simp,by simp,hs⟩
  | cons x Z2=>
   simp only [qf] at hN hb hn h99;have e:decide (((P.length+Z1.length:Nat):Int)<b)=true:=by rw [qe,hb]; omega
   obtain ⟨L',R',k1,k2,k3,k4⟩:=zbh4 h.toCW P (Z2++S) a b ((P.length+Z1.length:Nat):Int) ha (a.toNat +b.toNat +(P.length+Z1.length)+(P.length+Z1.length)+(P++Z1++x::Z2++S).length+1000) Z1 [] x (by simp only [qg,qf,List.length_nil]; omega) (by omega) (u2 x (by simp)) u1
   have ed:P++Z1++x::([]++(Z2++S))=P++Z1++x::Z2++S:=by simp
   rw [ed] at k1;simp only [Wy.ev_i,Wy.ev_k,Wy.ev_h,Wy.ev_bn,Wy.ev_d,e,cond_true,Int.toNat_natCast,k1];rw [List.append_nil] at k2
   have hlen:(L'++x::R').length=Z1.length+1:=by
    have:=congrArg List.length k2;simp only [qg,qf] at *; omega
   have hsl:zib (L'++x::R'):=zbfc h (u2 x (by simp)) (λy hy=>by rw [k2] at hy; exact u1 y hy) (by rw [k2]; exact hs) (λr hr=>by
    rcases k3 r hr with h | h
    ·cases h
    ·exact h) k4
   have hmem:∀ y∈L'++x::R',U y:=λy hy=>by
    rcases List.mem_append.1 hy with hy | hy
    ·exact u1 y (by rw [<- k2]; simp [hy])
    ·rcases qd.1 hy with rfl | hy
     ·exact u2 y (by simp)
     ·exact u1 y (by rw [<- k2]; simp [hy])
   obtain ⟨Z,m1,m2,m3⟩:=zbh8 h P S a b ha n (L'++x::R') Z2 (by simp only [qg] at hlen ⊢; simp only [qf] at hlen ⊢; omega) (by rw [hb,hlen]; omega) (by omega) hmem (λy hy=>u2 y (by simp [hy])) hsl (by omega) (by omega)
   refine ⟨Z, ?_,m2.trans ?_,m3⟩
   ·have wi:IntKind.i64.wrap (((P.length+Z1.length:Nat):Int)+1)=((P.length+(L'++x::R').length:Nat):Int):=by rw [hlen,zcf (by omega) (by omega)]; omega
    rw [wi, <- m1];congr 1;simp
   ·have:(L'++x::R').Perm (Z1++[x]):=by
     rw [<- k2];have h1:(L'++x::R').Perm (x::(L'++R')):=List.perm_middle;exact h1.trans (List.perm_append_comm (l₁:=[x]) (l₂:=L'++R'))
    have:=this.append_right Z2
    simpa using this
theorem zbgR {U:Wd->Prop} (h:OW U) (P Z S:yE) (hN:(P++Z++S).length<=1000000) (u:∀ y∈Z,U y) (h9:Z.length<=900) (a b:Int) (ha:a=(P.length:Int)) (hb:b=((P.length+Z.length:Nat):Int)):
  ∃ Z',zcd (P++Z++S) a b=(true,P++Z'++S)/\Z'.Perm Z/\zib Z':=by
 simp only [qg] at hN;unfold zcd zlj;have wa:IntKind.i64.wrap (a+1)=((P.length+1:Nat):Int):=by rw [ha,zcf (by omega) (by omega)]; omega
 rw [wa];cases Z with
 | nil=>
  refine ⟨[], ?_,.refl _,.nil⟩;have e:decide (((P.length+1:Nat):Int)<b)=false:=by rw [decide_eq_false_iff_not,hb]; simp; omega
  have e1:∀ k,zcY (k+1) a b ((P.length+1:Nat):Int) (P++([]:yE)++S)=(true,P++([]:yE)++S):=λk=>by
   show (zcZ a b (P.length+1:Nat) (P++([]:yE)++S)).ev _ _ _=_;unfold zcZ;rw [Wy.ev_i,e]; rfl
  have e2:zcY (a.toNat +b.toNat +Int.toNat ((P.length+1:Nat):Int)+(P++([]:yE)++S).length+(1000:Nat)) a b ((P.length+1:Nat):Int) (P++([]:yE)++S)=(true,P++([]:yE)++S):=e1 (a.toNat +b.toNat +Int.toNat ((P.length+1:Nat):Int)+(P++([]:yE)++S).length+999);rw [Wy.fin_bn,e2]; rfl
 | cons x Z=>
  simp only [qf] at hN h9 hb;obtain ⟨Z',k1,k2,k3⟩:=zbh8 h P S a b ha (a.toNat +b.toNat +Int.toNat ((P.length+1:Nat):Int)+(P++x::Z++S).length+(1000:Nat)) [x] Z (by simp only [qg,List.length_singleton]; omega) (by rw [hb]; simp only [List.length_singleton]; omega) (by omega) (λy hy=>u y (by rw [qh.1 hy]; simp)) (λy hy=>u y (by simp [hy])) (by simp) (by simp) (by simp only [List.length_singleton]; omega)
  have ed:P++[x]++Z++S=P++x::Z++S:=by simp
  rw [ed,show ([x]:yE).length=1 from rfl] at k1
  rw [Wy.fin_bn,k1];exact ⟨Z',rfl,k2,k3⟩
section
variable (g:yE->Int->Int->Int->Bool×yE) {U:Wd->Prop} (hU:CW U) (data:yE) (hN:data.length<=1000000) (lo hi:Nat) (hhi:hi<=data.length) (hd:∀ k,lo<=k->k<hi->U (data.getD k default))
include hU hN hhi hd
theorem zbaM (a m b mid n_:Int) (p s0 r0:Nat) (hp1:p<=2000000) (hr:r0<=data.length) (hp:∀ c,s0<=c->c<r0->c<=p/\lo<=p - c/\p - c<hi/\lo<=c/\c<hi):∀ (n s r:Nat),r - s<n->s0<=s->s<=r->r<=r0->
  (s=s0\/¬ ltW (data.getD (p - (s - 1)) default) (data.getD (s - 1) default))->(r=r0\/ltW (data.getD (p - r) default) (data.getD r default))->
  ∃ t:Nat,zeC g n a m b mid n_ s r p data=(true,(a,m,b,mid,n_,(t:Int),data))/\s0<=t/\t<=r0/\(t=s0\/¬ ltW (data.getD (p - (t - 1)) default) (data.getD (t - 1) default))/\(t=r0\/ltW (data.getD (p - t) default) (data.getD t default))
 | 0,s,r,hn,_,_,_,_,_=>by omega
 | n+1,s,r,hn,h0,h1,h2,k1,k2=>by
  show ∃ t:Nat,(zgF g a m b mid n_ s r p data).ev (λx y=>zeC g n x.2.1 x.2.2.1 x.2.2.2.1 x.2.2.2.2.2.1 x.2.2.2.2.2.2.1 x.2.2.2.2.2.2.2.1 x.2.2.2.2.2.2.2.2.1 x.2.2.2.2.2.2.2.2.2.1 y.1) (λr=>(true,r)) (false,default)=_/\_
  unfold zgF;by_cases hlt:s<r
  ·have e:decide ((s:Int)<(r:Int))=true:=by rw [qe]; omega
   have hh:=z1O (i:=s) (j:=r) (by omega)
   obtain ⟨c,hc⟩:∃ c,c=(s+r) / 2:=⟨_,rfl⟩;rw [<- hc] at hh;obtain ⟨q1,q2,q3,q4,q5⟩:=hp c (by omega) (by omega)
   have wp:IntKind.i64.wrap ((p:Int) - (c:Int))=((p - c:Nat):Int):=by rw [zcf (by omega) (by omega)]; omega
   have g1:(decide ((0:Int)<=((p - c:Nat):Int))&&decide (((p - c:Nat):Int)<Int.ofNat data.length))=true:=by simp only [qc,qe,Int.ofNat_eq_natCast]; omega
   have g2:(decide ((0:Int)<=(c:Int))&&decide ((c:Int)<Int.ofNat data.length))=true:=by simp only [qc,qe,Int.ofNat_eq_natCast]; omega
   obtain ⟨z,ez⟩:=hU.ends (data.getD (p - c) default) (data.getD c default) (hd _ q2 q3) (hd _ q4 q5);have hz:ltW (data.getD (p - c) default) (data.getD c default)↔z<0:=by unfold ltW; rw [ez]
   simp only [Wy.ev_i,Wy.ev_k,Wy.ev_h,Wy.ev_bn,Wy.ev_d,e,hh,wp,g1,g2,Int.toNat_natCast,ez,cond_true];by_cases hzz:z<0
   ·rw [decide_eq_true hzz,Bool.not_true,cond_false];exact zbaM a m b mid n_ p s0 r0 hp1 hr hp n s c (by omega) h0 (by omega) (by omega) k1 (.inr (hz.2 hzz))
   ·rw [decide_eq_false hzz,Bool.not_false,cond_true,show IntKind.i64.wrap ((c:Int)+1)=((c+1:Nat):Int) from zN (by omega)]
    exact zbaM a m b mid n_ p s0 r0 hp1 hr hp n (c+1) r (by omega) (by omega) (by omega) h2 (.inr (by rw [Nat.add_sub_cancel]; exact λh=>hzz (hz.1 h))) k2
  ·have e:decide ((s:Int)<(r:Int))=false:=by rw [decide_eq_false_iff_not]; omega
   have:s=r:=by omega
   subst this;simp only [Wy.ev_i,Wy.ev_k,e,cond_false];exact ⟨s,rfl,h0,h2,k1,k2⟩
theorem zbhQ (a m0 b0:Nat) (hlo:lo<=a) (ha:a<hi) (hm0:lo<=m0) (hb:b0<=hi):∀ (n i j:Nat),j - i<n->m0<=i->i<=j->j<=b0->
  (i=m0\/ltW (data.getD (i - 1) default) (data.getD a default))->(j=b0\/¬ ltW (data.getD j default) (data.getD a default))->
  ∃ t:Nat,zgV g n a i j data=(true,((a:Int),(t:Int),data))/\m0<=t/\t<=b0/\(t=m0\/ltW (data.getD (t - 1) default) (data.getD a default))/\(t=b0\/¬ ltW (data.getD t default) (data.getD a default))
 | 0,i,j,hn,_,_,_,_,_=>by omega
 | n+1,i,j,hn,h0,h1,h2,k1,k2=>by
  show ∃ t:Nat,(zg0 g a i j data).ev (λx y=>zgV g n x.2.1 x.2.2.2.1 x.2.2.2.2.1 y.1) (λr=>(true,r)) (false,default)=_/\_
  unfold zg0;by_cases hlt:i<j
  ·have e:decide ((i:Int)<(j:Int))=true:=by rw [qe]; omega
   have hh:=z1O (i:=i) (j:=j) (by omega)
   obtain ⟨c,hc⟩:∃ c,c=(i+j) / 2:=⟨_,rfl⟩;rw [<- hc] at hh;have g1:(decide ((0:Int)<=(c:Int))&&decide ((c:Int)<Int.ofNat data.length))=true:=by simp only [qc,qe,Int.ofNat_eq_natCast]; omega
   have g2:(decide ((0:Int)<=(a:Int))&&decide ((a:Int)<Int.ofNat data.length))=true:=by simp only [qc,qe,Int.ofNat_eq_natCast]; omega
   obtain ⟨z,ez⟩:=hU.ends (data.getD c default) (data.getD a default) (hd _ (by omega) (by omega)) (hd _ hlo ha)
   have hz:ltW (data.getD c default) (data.getD a default)↔z<0:=by unfold ltW; rw [ez]
   simp only [Wy.ev_i,Wy.ev_k,Wy.ev_h,Wy.ev_bn,Wy.ev_d,e,hh,g1,g2,Int.toNat_natCast,ez,cond_true];by_cases hzz:z<0
   ·rw [decide_eq_true hzz,cond_true,show IntKind.i64.wrap ((c:Int)+1)=((c+1:Nat):Int) from zN (by omega)]
    exact zbhQ a m0 b0 hlo ha hm0 hb n (c+1) j (by omega) (by omega) (by omega) h2 (.inr (by rw [Nat.add_sub_cancel]; exact hz.2 hzz)) k2
   ·rw [decide_eq_false hzz,cond_false];exact zbhQ a m0 b0 hlo ha hm0 hb n i c (by omega) h0 (by omega) (by omega) k1 (.inr λh=>hzz (hz.1 h))
  ·have e:decide ((i:Int)<(j:Int))=false:=by rw [decide_eq_false_iff_not]; omega
   have:i=j:=by omega
   subst this;simp only [Wy.ev_i,Wy.ev_k,e,cond_false];exact ⟨i,rfl,h0,h2,k1,k2⟩
theorem zbfb (m m0 b0:Nat) (hlo:lo<=m) (ha:m<hi) (hm0:lo<=m0) (hb:b0<=hi):∀ (n i j:Nat),j - i<n->m0<=i->i<=j->j<=b0->
  (i=m0\/¬ ltW (data.getD m default) (data.getD (i - 1) default))->(j=b0\/ltW (data.getD m default) (data.getD j default))->
  ∃ t:Nat,zgE g n m i j data=(true,((m:Int),(t:Int),data))/\m0<=t/\t<=b0/\(t=m0\/¬ ltW (data.getD m default) (data.getD (t - 1) default))/\(t=b0\/ltW (data.getD m default) (data.getD t default))
 | 0,i,j,hn,_,_,_,_,_=>by omega
 | n+1,i,j,hn,h0,h1,h2,k1,k2=>by
  show ∃ t:Nat,(zgC g m i j data).ev (λx y=>zgE g n x.2.1 x.2.2.2.1 x.2.2.2.2.1 y.1) (λr=>(true,r)) (false,default)=_/\_
  unfold zgC;by_cases hlt:i<j
  ·have e:decide ((i:Int)<(j:Int))=true:=by rw [qe]; omega
   have hh:=z1O (i:=i) (j:=j) (by omega)
   obtain ⟨c,hc⟩:∃ c,c=(i+j) / 2:=⟨_,rfl⟩;rw [<- hc] at hh;have g1:(decide ((0:Int)<=(c:Int))&&decide ((c:Int)<Int.ofNat data.length))=true:=by simp only [qc,qe,Int.ofNat_eq_natCast]; omega
   have g2:(decide ((0:Int)<=(m:Int))&&decide ((m:Int)<Int.ofNat data.length))=true:=by simp only [qc,qe,Int.ofNat_eq_natCast]; omega
   obtain ⟨z,ez⟩:=hU.ends (data.getD m default) (data.getD c default) (hd _ hlo ha) (hd _ (by omega) (by omega))
   have hz:ltW (data.getD m default) (data.getD c default)↔z<0:=by unfold ltW; rw [ez]
   simp only [Wy.ev_i,Wy.ev_k,Wy.ev_h,Wy.ev_bn,Wy.ev_d,e,hh,g1,g2,Int.toNat_natCast,ez,cond_true];by_cases hzz:z<0
   ·rw [decide_eq_true hzz,Bool.not_true,cond_false];exact zbfb m m0 b0 hlo ha hm0 hb n i c (by omega) h0 (by omega) (by omega) k1 (.inr (hz.2 hzz))
   ·rw [decide_eq_false hzz,Bool.not_false,cond_true,show IntKind.i64.wrap ((c:Int)+1)=((c+1:Nat):Int) from zN (by omega)]
    exact zbfb m m0 b0 hlo ha hm0 hb n (c+1) j (by omega) (by omega) (by omega) h2 (.inr (by rw [Nat.add_sub_cancel]; exact λh=>hzz (hz.1 h))) k2
  ·have e:decide ((i:Int)<(j:Int))=false:=by rw [decide_eq_false_iff_not]; omega
   have:i=j:=by omega
   subst this;simp only [Wy.ev_i,Wy.ev_k,e,cond_false];exact ⟨i,rfl,h0,h2,k1,k2⟩
end
theorem zbj1 (g:yE->Int->Int->Int->Bool×yE):∀ (n:Nat) (P W S:yE) (x:Wd),(P++x::(W++S)).length<=1000000->W.length<n->
  zeS g n ((P.length+W.length+1:Nat):Int) (P.length:Int) (P++x::(W++S))=(true,P++W++x::S)
 | 0,P,W,S,x,_,h=>by omega
 | n+1,P,W,S,x,hN,hn=>by
  show (zg6 g (P.length+W.length+1:Nat) P.length (P++x::(W++S))).ev (λx y=>zeS g n x.2.1 x.2.2.1 y.1) (λr=>(true,r)) (false,default)=_
  unfold zg6;simp only [qg,qf] at hN;have wi:IntKind.i64.wrap (((P.length+W.length+1:Nat):Int) - 1)=((P.length+W.length:Nat):Int):=by rw [zcf (by omega) (by omega)]; omega
  rw [wi];cases W with
  | nil=>
   have e:decide ((P.length:Int)<((P.length+([]:yE).length:Nat):Int))=false:=by rw [decide_eq_false_iff_not]; simp
   simp only [Wy.ev_i,Wy.ev_k,e,cond_false];simp
  | cons w W=>
   simp only [qf] at hN hn;have e:decide ((P.length:Int)<((P.length+(w::W).length:Nat):Int))=true:=by rw [qe]; simp; omega
   have wk:IntKind.i64.wrap ((P.length:Int)+1)=((P.length+1+([]:yE).length:Nat):Int):=by rw [zcf (by omega) (by omega)]; simp
   have ed:P++x::((w::W)++S)=P++x::([]++w::(W++S)):=rfl;have hlen:∀ u v:Wd,(P++u::([]++v::(W++S))).length=P.length+1+1+W.length+S.length:=λu v=>by simp only [qg,qf,List.length_nil]; omega
   have g1:∀ u v:Wd,(decide ((0:Int)<=((P.length+1+([]:yE).length:Nat):Int))&&decide (((P.length+1+([]:yE).length:Nat):Int)<Int.ofNat (P++u::([]++v::(W++S))).length))=true:=λu v=>by
    rw [hlen]; simp only [qc,qe,Int.ofNat_eq_natCast,List.length_nil]; omega
   have g2:∀ u v:Wd,(decide ((0:Int)<=(P.length:Int))&&decide ((P.length:Int)<Int.ofNat (P++u::([]++v::(W++S))).length))=true:=λu v=>by
    rw [hlen]; simp only [qc,qe,Int.ofNat_eq_natCast]; omega
   have g3:∀ u v:Wd,decide (P.length<(P++u::([]++v::(W++S))).length)=true:=λu v=>by rw [hlen,qe]; omega
   have g4:∀ u v:Wd,decide (P.length+1+([]:yE).length<(P++u::([]++v::(W++S))).length)=true:=λu v=>by rw [hlen,qe,List.length_nil]; omega
   rw [e,ed,wk];simp only [Wy.ev_i,Wy.ev_k,Wy.ev_h,Wy.ev_bn,Wy.ev_d,Int.toNat_natCast,g1,g2,g3,g4,z1y,z0i,z1G,z0L,cond_true];have ih:=zbj1 g n (P++[w]) W S x (by simp only [qg,qf,List.length_nil]; omega) (by omega)
   have e1:(P++[w])++x::(W++S)=P++w::([]++x::(W++S)):=by simp
   have e2:(((P++[w]).length+W.length+1:Nat):Int)=((P.length+(w::W).length+1:Nat):Int):=by simp; omega
   have e3:((P++[w]).length:Int)=((P.length+1+([]:yE).length:Nat):Int):=by simp
   rw [e1,e2,e3] at ih;rw [ih]; simp
theorem zbhZ (g:yE->Int->Int->Int->Bool×yE):∀ (n:Nat) (P W S:yE) (x:Wd),(P++W++x::S).length<=1000000->W.length<n->
  zeB g n (P.length:Int) ((P.length+W.length:Nat):Int) (P++W++x::S)=(true,P++x::(W++S))
 | 0,P,W,S,x,_,h=>by omega
 | n+1,P,W,S,x,hN,hn=>by
  show (zgA g P.length (P.length+W.length:Nat) (P++W++x::S)).ev (λx y=>zeB g n x.2.1 x.2.2.1 y.1) (λr=>(true,r)) (false,default)=_
  unfold zgA;simp only [qg,qf] at hN;rcases List.eq_nil_or_concat W with rfl | ⟨W0,w,rfl⟩
  ·have e:decide (((P.length+([]:yE).length:Nat):Int)>(P.length:Int))=false:=by rw [decide_eq_false_iff_not]; simp
   simp only [Wy.ev_i,Wy.ev_k,e,cond_false];simp
  ·rw [List.concat_eq_append] at *;simp only [qg,List.length_singleton] at hN hn;have e:decide (((P.length+(W0++[w]).length:Nat):Int)>(P.length:Int))=true:=by rw [qe]; simp; omega
   have ed:P++(W0++[w])++x::S=(P++W0)++w::([]++x::S):=by simp
   have ej:((P.length+(W0++[w]).length:Nat):Int)=(((P++W0).length+1+([]:yE).length:Nat):Int):=by simp; omega
   have wj:IntKind.i64.wrap ((((P++W0).length+1+([]:yE).length:Nat):Int) - 1)=(((P++W0).length:Nat):Int):=by
    simp only [qg,List.length_nil];rw [zcf (by omega) (by omega)]; omega
   have hlen:∀ u v:Wd,((P++W0)++u::([]++v::S)).length=P.length+W0.length+1+1+S.length:=λu v=>by simp only [qg,qf,List.length_nil]; omega
   have g1:∀ u v:Wd,(decide ((0:Int)<=(((P++W0).length+1+([]:yE).length:Nat):Int))&&decide ((((P++W0).length+1+([]:yE).length:Nat):Int)<Int.ofNat ((P++W0)++u::([]++v::S)).length))=true:=λu v=>by
    rw [hlen]; simp only [qc,qe,Int.ofNat_eq_natCast,qg,List.length_nil]; omega
   have g2:∀ u v:Wd,(decide ((0:Int)<=(((P++W0).length:Nat):Int))&&decide ((((P++W0).length:Nat):Int)<Int.ofNat ((P++W0)++u::([]++v::S)).length))=true:=λu v=>by
    rw [hlen]; simp only [qc,qe,Int.ofNat_eq_natCast,qg]; omega
   have g3:∀ u v:Wd,decide ((P++W0).length+1+([]:yE).length<((P++W0)++u::([]++v::S)).length)=true:=λu v=>by
    rw [hlen,qe]; simp only [qg,List.length_nil]; omega
   have g4:∀ u v:Wd,decide ((P++W0).length<((P++W0)++u::([]++v::S)).length)=true:=λu v=>by
    rw [hlen,qe]; simp only [qg]; omega
   rw [e,ed,ej,wj];simp only [Wy.ev_i,Wy.ev_k,Wy.ev_h,Wy.ev_bn,Wy.ev_d,Int.toNat_natCast,g1,g2,g3,g4,z1y,z0i,z1G,z0L,cond_true];have ih:=zbhZ g n P W0 (w::S) x (by simp only [qg,qf]; omega) (by omega)
   have e1:P++W0++x::(w::S)=(P++W0)++x::([]++w::S):=by simp
   have e3:((P.length+W0.length:Nat):Int)=(((P++W0).length:Nat):Int):=by simp
   rw [e1,e3] at ih;rw [ih]; simp
theorem zTJ {l:yE} (h:zib l) {i j:Nat} (hi:i<j) (hj:j<l.length):¬ ltW (l.getD j default) (l.getD i default):=by
 have:=List.pairwise_iff_getElem.1 h i j (by omega) hj hi
 rw [List.getD_eq_getElem?_getD,List.getD_eq_getElem?_getD,List.getElem?_eq_getElem hj,List.getElem?_eq_getElem (by omega:i<l.length)]
 exact this
theorem zbdt {U:Wd->Prop} (h:OW U) {Y1 Y2:yE} {x:Wd} (hx:U x) (hY:∀ y∈Y1++Y2,U y) (hs:zib (Y1++Y2)) (h1:∀ y∈Y1,¬ ltW x y) (h2:∀ y∈Y2,¬ ltW y x):zib (Y1++x::Y2):=by
 have hs':=List.pairwise_append.1 hs;refine List.pairwise_append.2 ⟨hs'.1,qi.2 ⟨h2,hs'.2.1⟩,λy hy z hz=> ?_⟩
 rcases qd.1 hz with rfl | hz
 ·exact h1 y hy
 ·exact hs'.2.2 y hy z hz
theorem zFg {l:yE} {k:Nat} {y:Wd} (h:y∈l.take k):∃ i,i<k/\i<l.length/\y=l.getD i default:=by
 obtain ⟨i,hi,e⟩:=List.mem_iff_getElem.1 h;rw [List.length_take] at hi;refine ⟨i,by omega,by omega, ?_⟩
 rw [List.getElem_take] at e;rw [List.getD_eq_getElem?_getD,List.getElem?_eq_getElem (by omega:i<l.length), <- e]; rfl
theorem zFe {l:yE} {k:Nat} {y:Wd} (h:y∈l.drop k):∃ i,k<=i/\i<l.length/\y=l.getD i default:=by
 obtain ⟨i,hi,e⟩:=List.mem_iff_getElem.1 h;rw [List.length_drop] at hi;refine ⟨k+i,by omega,by omega, ?_⟩
 rw [List.getElem_drop] at e;rw [List.getD_eq_getElem?_getD,List.getElem?_eq_getElem (by omega:k+i<l.length), <- e]; rfl
theorem zbgz {U:Wd->Prop} (h:OW U) {Y:yE} {x:Wd} (hx:U x) (hY:∀ y∈Y,U y) (hs:zib Y) {t:Nat} (ht:t<=Y.length) (h1:t=0\/ltW (Y.getD (t - 1) default) x) (h2:t=Y.length\/¬ ltW (Y.getD t default) x):zib (Y.take t++x::Y.drop t):=by
 refine zbdt h hx (by rw [List.take_append_drop]; exact hY) (by rw [List.take_append_drop]; exact hs) (λy hy=> ?_) λy hy=> ?_
 ·obtain ⟨i,i1,i2,rfl⟩:=zFg hy;rcases h1 with rfl | h1
  ·omega
  ·have hl:U (Y.getD (t - 1) default):=hY _ (zp (by omega))
   have hi:U (Y.getD i default):=hY _ (zp i2);have a1:=h.asym _ _ hl hx h1;by_cases e:i=t - 1
   ·rw [e]; exact a1
   ·exact h.ntr x _ _ hx hl hi a1 (zTJ hs (by omega) (by omega))
 ·obtain ⟨i,i1,i2,rfl⟩:=zFe hy;rcases h2 with rfl | h2
  ·omega
  ·have hl:U (Y.getD t default):=hY _ (zp (by omega))
   have hi:U (Y.getD i default):=hY _ (zp i2);by_cases e:i=t
   ·rw [e]; exact h2
   ·exact h.ntr _ _ x hi hl hx (zTJ hs (by omega) i2) h2
theorem zbgl {U:Wd->Prop} (h:OW U) {X:yE} {y:Wd} (hy:U y) (hX:∀ x∈X,U x) (hs:zib X) {t:Nat} (ht:t<=X.length) (h1:t=0\/¬ ltW y (X.getD (t - 1) default)) (h2:t=X.length\/ltW y (X.getD t default)):zib (X.take t++y::X.drop t):=by
 refine zbdt h hy (by rw [List.take_append_drop]; exact hX) (by rw [List.take_append_drop]; exact hs) (λx hx=> ?_) λx hx=> ?_
 ·obtain ⟨i,i1,i2,rfl⟩:=zFg hx;rcases h1 with rfl | h1
  ·omega
  ·have hl:U (X.getD (t - 1) default):=hX _ (zp (by omega))
   have hi:U (X.getD i default):=hX _ (zp i2);by_cases e:i=t - 1
   ·rw [e]; exact h1
   ·exact h.ntr y _ _ hy hl hi h1 (zTJ hs (by omega) (by omega))
 ·obtain ⟨i,i1,i2,rfl⟩:=zFe hx;rcases h2 with rfl | h2
  ·omega
  ·have hl:U (X.getD t default):=hX _ (zp (by omega))
   have hi:U (X.getD i default):=hX _ (zp i2);have a1:=h.asym _ _ hy hl h2;by_cases e:i=t
   ·rw [e]; exact a1
   ·exact h.ntr _ _ y hi hl hy (zTJ hs (by omega) i2) a1
section
variable (g:yE->Int->Int->Int->Bool×yE)
def sT2 (mid e b:Int) (D:yE):Wy0 (yE):=.i (decide (mid<e)) (.i (decide (e<b)) (.bn (g D mid e b) λr=>.k r) (.k D)) (.k D)
def sT1 (a st mid e b:Int) (D:yE):Wy0 (yE):=.i (decide (a<st)) (.i (decide (st<mid)) (.bn (g D a st mid) λr=>sT2 g mid e b r) (sT2 g mid e b D)) (sT2 g mid e b D)
def sT0 (a st mid e m b:Int) (D:yE):Wy0 (yE):=.i (decide (st<m)) (.i (decide (m<e)) (.bn (zcR D st m e) λr=>sT1 g a st mid e b r) (sT1 g a st mid e b D)) (sT1 g a st mid e b D)
def z1R (U:Wd->Prop) (n:Nat):Prop:=∀ (P X Y S:yE) (a m b:Int),(P++X++Y++S).length<=1000000->X.length+Y.length<=n->0<X.length->0<Y.length->(∀ y∈X++Y,U y)->zib X->zib Y->
 a=(P.length:Int)->m=((P.length+X.length:Nat):Int)->b=((P.length+X.length+Y.length:Nat):Int)->∃ Z,g (P++X++Y++S) a m b=(true,P++Z++S)/\Z.Perm (X++Y)/\zib Z
variable {g} {U:Wd->Prop} {n:Nat} (hg:z1R g U n)
include hg
theorem zbka (P X Y S:yE) (mid e b:Int) (hN:(P++X++Y++S).length<=1000000) (hs:X.length+Y.length<=n) (u:∀ y∈X++Y,U y) (h1:zib X) (h2:zib Y)
  (ha:mid=(P.length:Int)) (hm:e=((P.length+X.length:Nat):Int)) (hb:b=((P.length+X.length+Y.length:Nat):Int)):
  ∃ Z,(sT2 g mid e b (P++X++Y++S)).fin default=(true,P++Z++S)/\Z.Perm (X++Y)/\zib Z:=by
 unfold sT2;by_cases hX:0<X.length
 ·have e1:decide (mid<e)=true:=by rw [qe,ha,hm]; omega
  by_cases hY:0<Y.length
  ·have e2:decide (e<b)=true:=by rw [qe,hm,hb]; omega
   obtain ⟨Z,k1,k2,k3⟩:=hg P X Y S mid e b hN hs hX hY u h1 h2 ha hm hb;refine ⟨Z, ?_,k2,k3⟩;rw [Wy.fin_i,e1,cond_true,Wy.fin_i,e2,cond_true,Wy.fin_bn,k1,cond_true,Wy.fin_k]
  ·have e2:decide (e<b)=false:=by rw [decide_eq_false_iff_not,hm,hb]; omega
   have:Y=[]:=List.length_eq_zero_iff.1 (by omega)
   subst this;refine ⟨X, ?_,by simp,h1⟩
   rw [Wy.fin_i,e1,cond_true,Wy.fin_i,e2,cond_false,Wy.fin_k]; simp
 ·have e1:decide (mid<e)=false:=by rw [decide_eq_false_iff_not,ha,hm]; omega
  have:X=[]:=List.length_eq_zero_iff.1 (by omega)
  subst this;refine ⟨Y, ?_,by simp,h2⟩
  rw [Wy.fin_i,e1,cond_false,Wy.fin_k]; simp
theorem zbjO (P X1 Y1 X2 Y2 S:yE) (a st mid e b:Int) (hN:(P++X1++Y1++X2++Y2++S).length<=1000000) (hs1:X1.length+Y1.length<=n) (hs2:X2.length+Y2.length<=n) (u:∀ y∈X1++Y1++X2++Y2,U y)
  (h1:zib X1) (h2:zib Y1) (h3:zib X2) (h4:zib Y2)
  (ha:a=(P.length:Int)) (hst:st=((P.length+X1.length:Nat):Int)) (hmid:mid=((P.length+X1.length+Y1.length:Nat):Int)) (he:e=((P.length+X1.length+Y1.length+X2.length:Nat):Int)) (hb:b=((P.length+X1.length+Y1.length+X2.length+Y2.length:Nat):Int)):
  ∃ Z1 Z2,(sT1 g a st mid e b (P++X1++Y1++X2++Y2++S)).fin default=(true,P++Z1++Z2++S)/\Z1.Perm (X1++Y1)/\Z2.Perm (X2++Y2)/\zib Z1/\zib Z2:=by
 have key:∀ Z1:yE,Z1.length=X1.length+Y1.length->∃ Z2,(sT2 g mid e b (P++Z1++X2++Y2++S)).fin default=(true,P++Z1++Z2++S)/\Z2.Perm (X2++Y2)/\zib Z2:=λZ1 hz=>by
  have:=zbka hg (P++Z1) X2 Y2 S mid e b (by simp only [qg] at hN ⊢; omega) hs2 (λy hy=>u y (by
   rcases List.mem_append.1 hy with hy | hy <;>simp [hy])) h3 h4 (by rw [hmid,qg,hz]; omega) (by rw [he,qg,hz]; omega) (by rw [hb,qg,hz]; omega)
  exact this
 unfold sT1;by_cases hX:0<X1.length
 ·have e1:decide (a<st)=true:=by rw [qe,ha,hst]; omega
  by_cases hY:0<Y1.length
  ·have e2:decide (st<mid)=true:=by rw [qe,hst,hmid]; omega
   obtain ⟨Z1,k1,k2,k3⟩:=hg P X1 Y1 (X2++Y2++S) a st mid (by simp only [qg] at hN ⊢; omega) hs1 hX hY (λy hy=>u y (by
    rcases List.mem_append.1 hy with hy | hy <;>simp [hy])) h1 h2 ha hst hmid
   have ed:P++X1++Y1++(X2++Y2++S)=P++X1++Y1++X2++Y2++S:=by simp only [List.append_assoc]
   rw [ed] at k1;obtain ⟨Z2,m1,m2,m3⟩:=key Z1 (by rw [k2.length_eq,qg])
   refine ⟨Z1,Z2, ?_,k2,m2,k3,m3⟩;rw [Wy.fin_i,e1,cond_true,Wy.fin_i,e2,cond_true,Wy.fin_bn,k1,cond_true, <- m1];simp only [List.append_assoc]
  ·have e2:decide (st<mid)=false:=by rw [decide_eq_false_iff_not,hst,hmid]; omega
   have:Y1=[]:=List.length_eq_zero_iff.1 (by omega)
   subst this;obtain ⟨Z2,m1,m2,m3⟩:=key X1 (by simp)
   refine ⟨X1,Z2, ?_,by simp,m2,h1,m3⟩
   rw [Wy.fin_i,e1,cond_true,Wy.fin_i,e2,cond_false,List.append_nil]; exact m1
 ·have e1:decide (a<st)=false:=by rw [decide_eq_false_iff_not,ha,hst]; omega
  have:X1=[]:=List.length_eq_zero_iff.1 (by omega)
  subst this;obtain ⟨Z2,m1,m2,m3⟩:=key Y1 (by simp)
  refine ⟨Y1,Z2, ?_,by simp,m2,h2,m3⟩
  rw [Wy.fin_i,e1,cond_false,List.append_nil]; exact m1
theorem zbke (P X1 X2 Y1 Y2 S:yE) (a st mid e m b:Int) (hN:(P++X1++X2++Y1++Y2++S).length<=1000000) (hs1:X1.length+Y1.length<=n) (hs2:X2.length+Y2.length<=n) (u:∀ y∈X1++Y1++X2++Y2,U y)
  (h1:zib (X1++X2)) (h2:zib (Y1++Y2)) (c1:∀ x∈X1,∀ y∈Y2,¬ ltW y x) (c2:∀ y∈Y1,∀ x∈X2,¬ ltW x y)
  (ha:a=(P.length:Int)) (hst:st=((P.length+X1.length:Nat):Int)) (hmid:mid=((P.length+X1.length+Y1.length:Nat):Int)) (hm:m=((P.length+X1.length+X2.length:Nat):Int)) (he:e=((P.length+X1.length+X2.length+Y1.length:Nat):Int)) (hb:b=((P.length+X1.length+X2.length+Y1.length+Y2.length:Nat):Int)):
  ∃ Z,(sT0 g a st mid e m b (P++X1++X2++Y1++Y2++S)).fin default=(true,P++Z++S)/\Z.Perm ((X1++X2)++(Y1++Y2))/\zib Z:=by
 have s1:=List.pairwise_append.1 h1;have s2:=List.pairwise_append.1 h2;obtain ⟨Z1,Z2,k1,k2,k3,k4,k5⟩:=zbjO hg P X1 Y1 X2 Y2 S a st mid e b (by simp only [qg] at hN ⊢; omega) hs1 hs2 u s1.1 s2.1 s1.2.1 s2.2.1 ha hst hmid (by rw [he]; omega) (by rw [hb]; omega)
 refine ⟨Z1++Z2, ?_, ?_,List.pairwise_append.2 ⟨k4,k5,λx hx y hy=> ?_⟩⟩
 ·unfold sT0;have fin:(sT1 g a st mid e b (P++X1++Y1++X2++Y2++S)).fin default=(true,P++(Z1++Z2)++S):=by rw [k1]; simp only [List.append_assoc]
  by_cases hX:0<X2.length
  ·have e1:decide (st<m)=true:=by rw [qe,hst,hm]; omega
   by_cases hY:0<Y1.length
   ·have e2:decide (m<e)=true:=by rw [qe,hm,he]; omega
    have hr:=zblr (P++X1) X2 Y1 (Y2++S) (by simp only [qg] at hN ⊢; omega) hX hY st m e (by rw [hst,qg]) (by rw [hm,qg]) (by rw [he,qg])
    have ed:P++X1++X2++Y1++(Y2++S)=P++X1++X2++Y1++Y2++S:=by simp only [List.append_assoc]
    have ed2:P++X1++Y1++X2++(Y2++S)=P++X1++Y1++X2++Y2++S:=by simp only [List.append_assoc]
    rw [ed,ed2] at hr;rw [Wy.fin_i,e1,cond_true,Wy.fin_i,e2,cond_true,Wy.fin_bn,hr,cond_true,fin]
   ·have e2:decide (m<e)=false:=by rw [decide_eq_false_iff_not,hm,he]; omega
    have:Y1=[]:=List.length_eq_zero_iff.1 (by omega)
    subst this;rw [Wy.fin_i,e1,cond_true,Wy.fin_i,e2,cond_false];rw [List.append_nil] at fin ⊢;exact fin
  ·have e1:decide (st<m)=false:=by rw [decide_eq_false_iff_not,hst,hm]; omega
   have:X2=[]:=List.length_eq_zero_iff.1 (by omega)
   subst this;rw [Wy.fin_i,e1,cond_false];rw [List.append_nil] at fin ⊢;exact fin
 ·refine (k2.append k3).trans ?_;rw [List.append_assoc X1 Y1,List.append_assoc X1 X2];refine List.Perm.append_left X1 ?_;rw [<- List.append_assoc, <- List.append_assoc];exact List.Perm.append_right Y2 List.perm_append_comm
 ·have hx':=k2.mem_iff.1 hx;have hy':=k3.mem_iff.1 hy;rcases List.mem_append.1 hx' with hx' | hx' <;>rcases List.mem_append.1 hy' with hy' | hy'
  ·exact s1.2.2 x hx' y hy'
  ·exact c1 x hx' y hy'
  ·exact c2 x hx' y hy'
  ·exact s2.2.2 x hx' y hy'
end
theorem zbkM {P X Y S:yE} {k:Nat} (h:k<X.length):(P++X++Y++S).getD (P.length+k) default=X.getD k default:=by
 rw [List.getD_eq_getElem?_getD,List.getD_eq_getElem?_getD,List.append_assoc,List.append_assoc,List.getElem?_append_right (by omega),Nat.add_sub_cancel_left,List.getElem?_append_left h]
theorem zbj7 {P X Y S:yE} {k:Nat} (h:k<Y.length):(P++X++Y++S).getD (P.length+X.length+k) default=Y.getD k default:=by
 rw [List.append_assoc (P++X)];rw [List.getD_eq_getElem?_getD,List.getD_eq_getElem?_getD,List.getElem?_append_right (by rw [qg]; omega),List.length_append,Nat.add_sub_cancel_left,List.getElem?_append_left h]
section
variable {g:yE->Int->Int->Int->Bool×yE} {U:Wd->Prop} {n:Nat} (hU:OW U) (hg:z1R g U n)
include hU hg
theorem zbiL (P X Y S:yE) (i j mid:Nat) (hN:(P++X++Y++S).length<=1000000) (u:∀ y∈X++Y,U y) (h1:zib X) (h2:zib Y) (hi:i<=X.length) (hj:j<=Y.length) (hm:P.length+i+j=mid)
  (n1:i+j<=n) (n2:X.length - i+(Y.length - j)<=n)
  (b1:i=0\/j=Y.length\/¬ ltW (Y.getD j default) (X.getD (i - 1) default)) (b2:j=0\/i=X.length\/ltW (Y.getD (j - 1) default) (X.getD i default)) (a t e m b:Int)
  (ea:a=(P.length:Int)) (et:t=((P.length+i:Nat):Int)) (em:m=((P.length+X.length:Nat):Int)) (ee:e=((P.length+X.length+j:Nat):Int)) (eb:b=((P.length+X.length+Y.length:Nat):Int)):
  ∃ Z,(sT0 g a t mid e m b (P++X++Y++S)).fin default=(true,P++Z++S)/\Z.Perm (X++Y)/\zib Z:=by
 have lx:(X.take i).length=i:=by rw [List.length_take]; omega
 have lx2:(X.drop i).length=X.length - i:=List.length_drop;have ly:(Y.take j).length=j:=by rw [List.length_take]; omega
 have ly2:(Y.drop j).length=Y.length - j:=List.length_drop;have ex:X.take i++X.drop i=X:=List.take_append_drop i X;have ey:Y.take j++Y.drop j=Y:=List.take_append_drop j Y;have uX:∀ k,k<X.length->U (X.getD k default):=λk hk=>u _ (List.mem_append_left _ (zp hk))
 have uY:∀ k,k<Y.length->U (Y.getD k default):=λk hk=>u _ (List.mem_append_right _ (zp hk))
 have ge:∀ {l:yE},zib l->∀ {p q:Nat},p<=q->q<l.length->U (l.getD p default)->¬ ltW (l.getD q default) (l.getD p default):=λ{l} hl {p q} hpq hq hu=>by
  rcases Nat.lt_or_eq_of_le hpq with h | h
  ·exact zTJ hl h hq
  ·subst h; exact λh=>hU.asym _ _ hu hu h h
 have key:=zbke hg P (X.take i) (X.drop i) (Y.take j) (Y.drop j) S a t mid e m b (by
   simp only [qg] at hN ⊢; omega) (by omega) (by omega) (λy hy=>u y (by
   simp only [List.mem_append] at hy ⊢;rcases hy with ((hy | hy) | hy) | hy
   ·exact .inl (List.mem_of_mem_take hy)
   ·exact .inr (List.mem_of_mem_take hy)
   ·exact .inl (List.mem_of_mem_drop hy)
   ·exact .inr (List.mem_of_mem_drop hy))) (by rw [ex]; exact h1) (by rw [ey]; exact h2) (λx hx y hy=>by
   obtain ⟨p,p1,p2,rfl⟩:=zFg hx;obtain ⟨q,q1,q2,rfl⟩:=zFe hy;rcases b1 with b1 | b1 | b1
   ·omega
   ·omega
   ·exact hU.ntr _ _ _ (uY q q2) (uX (i - 1) (by omega)) (uX p p2) (hU.ntr _ _ _ (uY q q2) (uY j (by omega)) (uX (i - 1) (by omega)) (ge h2 q1 q2 (uY j (by omega))) b1) (ge h1 (by omega) (by omega) (uX p p2))) (λy hy x hx=>by
   obtain ⟨q,q1,q2,rfl⟩:=zFg hy;obtain ⟨p,p1,p2,rfl⟩:=zFe hx;rcases b2 with b2 | b2 | b2
   ·omega
   ·omega
   ·have b3:=hU.asym _ _ (uY (j - 1) (by omega)) (uX i (by omega)) b2
    exact hU.ntr _ _ _ (uX p p2) (uY (j - 1) (by omega)) (uY q q2) (hU.ntr _ _ _ (uX p p2) (uX i (by omega)) (uY (j - 1) (by omega)) (ge h1 p1 p2 (uX i (by omega))) b3) (ge h2 (by omega) (by omega) (uY q q2))) ea (by rw [et,lx]) (by rw [lx,ly]; omega) (by rw [em,lx,lx2]; omega) (by rw [ee,lx,lx2,ly]; omega) (by rw [eb,lx,lx2,ly,ly2]; omega)
 rw [ex,ey] at key
 have ed:P++X.take i++X.drop i++Y.take j++Y.drop j++S=P++X++Y++S:=by
  rw [List.append_assoc P,ex,List.append_assoc (P++X),ey]
 rwa [ed] at key
theorem zbgT:z1R (zdY g) U (n+1):=by
 intro P X Y S a m b hN hs hX hY u h1 h2 ha hm hb;have hCW:CW U:=hU.toCW;obtain ⟨D,hD⟩:∃ D,D=P++X++Y++S:=⟨_,rfl⟩;have hL:D.length=P.length+X.length+Y.length+S.length:=by rw [hD]; simp only [qg]
 have hN':=hN;simp only [qg] at hN';have uX:∀ k,k<X.length->U (X.getD k default):=λk hk=>u _ (List.mem_append_left _ (zp hk))
 have uY:∀ k,k<Y.length->U (Y.getD k default):=λk hk=>u _ (List.mem_append_right _ (zp hk))
 have gX:∀ {k:Nat},k<X.length->D.getD (P.length+k) default=X.getD k default:=λ{k} hk=>by rw [hD]; exact zbkM hk
 have gY:∀ {k:Nat},k<Y.length->D.getD (P.length+X.length+k) default=Y.getD k default:=λ{k} hk=>by rw [hD]; exact zbj7 hk
 unfold zdY zmR;rw [<- hD];have w1:IntKind.i64.wrap (m - a)=(X.length:Int):=by rw [ha,hm,zcf (by omega) (by omega)]; omega
 have w2:IntKind.i64.wrap (b - m)=(Y.length:Int):=by rw [hb,hm,zcf (by omega) (by omega)]; omega
 rw [Wy.fin_i,w1]
 have hd:∀ k,P.length<=k->k<P.length+X.length+Y.length->U (D.getD k default):=λk k1 k2=>by
  by_cases hk:k<P.length+X.length
  ·have:=gX (k:=k - P.length) (by omega)
   rw [show P.length+(k - P.length)=k by omega] at this
   rw [this]; exact uX _ (by omega)
  ·have:=gY (k:=k - (P.length+X.length)) (by omega)
   rw [show P.length+X.length+(k - (P.length+X.length))=k by omega] at this
   rw [this]; exact uY _ (by omega)
 have hDN:D.length<=1000000:=by omega
 subst ha hm hb;by_cases x1:X.length=1
 ·have e1:((X.length:Int)==1)=true:=by rw [x1]; rfl
  rw [e1,cond_true,Wy.fin_bn];obtain ⟨x,rfl⟩:=List.length_eq_one_iff.1 x1
  obtain ⟨t,l1,l2,l3,l4,l5⟩:=zbhQ g hCW D hDN P.length (P.length+[x].length+Y.length) (by omega) hd P.length (P.length+[x].length) (P.length+[x].length+Y.length) (by omega) (by omega) (by omega) (by omega)
   (Int.toNat (P.length:Int)+Int.toNat ((P.length+[x].length:Nat):Int)+Int.toNat ((P.length+[x].length+Y.length:Nat):Int)+D.length+(1000:Nat)) (P.length+[x].length) (P.length+[x].length+Y.length) (by omega) (by omega) (by omega) (by omega) (.inl rfl) (.inl rfl)
  rw [l1,cond_true,Wy.fin_bn];have g0:D.getD P.length default=x:=gX (k:=0) (by omega)
  rw [g0] at l4 l5;obtain ⟨k,rfl⟩:∃ k,t=P.length+[x].length+k:=⟨t - (P.length+[x].length),by omega⟩
  have hk:k<=Y.length:=by omega
  have lk:(Y.take k).length=k:=by rw [List.length_take]; omega
  have eD:D=P++x::(Y.take k++(Y.drop k++S)):=by
   rw [hD, <- List.append_assoc (Y.take k),List.take_append_drop]; simp
  have k9:=zbj1 g (Int.toNat ((P.length+[x].length+k:Nat):Int)+Int.toNat (P.length:Int)+D.length+(1000:Nat)) P (Y.take k) (Y.drop k++S) x (by rw [<- eD]; exact hDN) (by omega)
  rw [<- eD,lk,show P.length+k+1=P.length+[x].length+k by simp; omega] at k9
  refine ⟨Y.take k++x::Y.drop k, ?_, ?_, ?_⟩
  ·have:zeS g (Int.toNat ((P.length+[x].length+k:Nat):Int)+Int.toNat (P.length:Int)+D.length+(1000:Nat)) ((P.length+[x].length+k:Nat):Int) (P.length:Int) D=_:=k9;simp only [this,cond_true,Wy.fin_k];simp
  ·exact (List.perm_middle.trans (by rw [List.take_append_drop])).trans (by simp)
  ·refine zbgz hU (u x (by simp)) (λy hy=>u y (by simp [hy])) h2 hk ?_ ?_
   ·rcases l4 with l4 | l4
    ·exact .inl (by omega)
    ·by_cases k0:k=0
     ·exact .inl k0
     ·have:=gY (k:=k - 1) (by omega)
      rw [show P.length+[x].length+k - 1=P.length+[x].length+(k - 1) by omega,this] at l4
      exact .inr l4
   ·rcases l5 with l5 | l5
    ·exact .inl (by omega)
    ·by_cases k0:k=Y.length
     ·exact .inl k0
     ·rw [gY (k:=k) (by omega)] at l5
      exact .inr l5
 have e1:((X.length:Int)==1)=false:=by rw [beq_eq_false_iff_ne]; omega
 rw [e1,cond_false,Wy.fin_i,w2];by_cases y1:Y.length=1
 ·have e2:((Y.length:Int)==1)=true:=by rw [y1]; rfl
  rw [e2,cond_true,Wy.fin_bn];obtain ⟨y,rfl⟩:=List.length_eq_one_iff.1 y1
  obtain ⟨t,l1,l2,l3,l4,l5⟩:=zbfb g hCW D hDN P.length (P.length+X.length+[y].length) (by omega) hd (P.length+X.length) P.length (P.length+X.length) (by omega) (by omega) (by omega) (by omega)
   (Int.toNat ((P.length+X.length:Nat):Int)+Int.toNat (P.length:Int)+Int.toNat ((P.length+X.length:Nat):Int)+D.length+(1000:Nat)) P.length (P.length+X.length) (by omega) (by omega) (by omega) (by omega) (.inl rfl) (.inl rfl)
  rw [l1,cond_true,Wy.fin_bn];have g0:D.getD (P.length+X.length) default=y:=gY (k:=0) (by omega)
  rw [g0] at l4 l5;obtain ⟨k,rfl⟩:∃ k,t=P.length+k:=⟨t - P.length,by omega⟩
  have hk:k<=X.length:=by omega
  have lk:(X.take k).length=k:=by rw [List.length_take]; omega
  have eD:D=(P++X.take k)++X.drop k++y::S:=by
   rw [hD,List.append_assoc P (X.take k),List.take_append_drop]; simp
  have k9:=zbhZ g (Int.toNat ((P.length+k:Nat):Int)+Int.toNat ((P.length+X.length:Nat):Int)+D.length+(1000:Nat)) (P++X.take k) (X.drop k) S y (by rw [<- eD]; exact hDN) (by rw [List.length_drop]; omega)
  rw [<- eD,qg,List.length_drop,lk,show P.length+k+(X.length - k)=P.length+X.length by omega] at k9
  refine ⟨X.take k++y::X.drop k, ?_, ?_, ?_⟩
  ·have:zeB g (Int.toNat ((P.length+k:Nat):Int)+Int.toNat ((P.length+X.length:Nat):Int)+D.length+(1000:Nat)) ((P.length+k:Nat):Int) ((P.length+X.length:Nat):Int) D=_:=k9;simp only [this,cond_true,Wy.fin_k];simp
  ·refine (List.perm_middle.trans (by rw [List.take_append_drop])).trans ?_
   exact (List.perm_append_comm (l₁:=[y]) (l₂:=X))
  ·refine zbgl hU (u y (by simp)) (λx hx=>u x (by simp [hx])) h1 hk ?_ ?_
   ·rcases l4 with l4 | l4
    ·exact .inl (by omega)
    ·by_cases k0:k=0
     ·exact .inl k0
     ·have:=gX (k:=k - 1) (by omega)
      rw [show P.length+k - 1=P.length+(k - 1) by omega,this] at l4
      exact .inr l4
   ·rcases l5 with l5 | l5
    ·exact .inl (by omega)
    ·by_cases k0:k=X.length
     ·exact .inl k0
     ·rw [gX (k:=k) (by omega)] at l5
      exact .inr l5
 have e2:((Y.length:Int)==1)=false:=by rw [beq_eq_false_iff_ne]; omega
 rw [e2,cond_false,Wy.fin_i];have hh:=z1O (i:=P.length) (j:=P.length+X.length+Y.length) (by omega)
 obtain ⟨mid,hmid⟩:∃ c,c=(P.length+(P.length+X.length+Y.length)) / 2:=⟨_,rfl⟩;rw [<- hmid] at hh;have wn:IntKind.i64.wrap ((mid:Int)+((P.length+X.length:Nat):Int))=((mid+(P.length+X.length):Nat):Int):=by rw [zcf (by omega) (by omega)]; omega
 have wp:IntKind.i64.wrap (((mid+(P.length+X.length):Nat):Int) - 1)=((mid+(P.length+X.length) - 1:Nat):Int):=by rw [zcf (by omega) (by omega)]; omega
 simp only [hh,wn,wp]
 have fin:∀ t:Nat,P.length<=t->t<=P.length+X.length->t<=mid->mid - t<=Y.length->
   (t=P.length\/mid - t=Y.length\/¬ ltW (D.getD (mid+(P.length+X.length) - 1 - (t - 1)) default) (D.getD (t - 1) default))->(mid=t\/t=P.length+X.length\/ltW (D.getD (mid+(P.length+X.length) - 1 - t) default) (D.getD t default))->
   ∃ Z,(sT0 g (P.length:Int) (t:Int) (mid:Int) (IntKind.i64.wrap (((mid+(P.length+X.length):Nat):Int) - (t:Int))) ((P.length+X.length:Nat):Int) ((P.length+X.length+Y.length:Nat):Int) D).fin default=(true,P++Z++S)/\Z.Perm (X++Y)/\zib Z:=λt t1 t2 t3 t4 b1 b2=>by
  rw [hD];refine zbiL hU hg P X Y S (t - P.length) (mid - t) mid hN u h1 h2 (by omega) t4 (by omega) (by omega) (by omega) ?_ ?_ _ _ _ _ _ rfl (by omega) rfl (by rw [zcf (by omega) (by omega)]; omega) rfl
  ·by_cases c1:t=P.length
   ·exact .inl (by omega)
   ·by_cases c2:mid - t=Y.length
    ·exact .inr (.inl c2)
    ·have b3:=(b1.resolve_left c1).resolve_left c2;have q1:=gY (k:=mid - t) (by omega)
     have q2:=gX (k:=t - P.length - 1) (by omega)
     rw [show P.length+X.length+(mid - t)=mid+(P.length+X.length) - 1 - (t - 1) by omega] at q1
     rw [show P.length+(t - P.length - 1)=t - 1 by omega] at q2
     rw [q1,q2] at b3;exact .inr (.inr b3)
  ·by_cases c1:mid=t
   ·exact .inl (by omega)
   ·by_cases c2:t=P.length+X.length
    ·exact .inr (.inl (by omega))
    ·have b3:=(b2.resolve_left c1).resolve_left c2;have q1:=gY (k:=mid - t - 1) (by omega)
     have q2:=gX (k:=t - P.length) (by omega)
     rw [show P.length+X.length+(mid - t - 1)=mid+(P.length+X.length) - 1 - t by omega] at q1
     rw [show P.length+(t - P.length)=t by omega] at q2
     rw [q1,q2] at b3;exact .inr (.inr b3)
 by_cases hgt:P.length+X.length>mid
 ·have e3:decide (((P.length+X.length:Nat):Int)>(mid:Int))=true:=by rw [qe]; omega
  have wb:IntKind.i64.wrap (((mid+(P.length+X.length):Nat):Int) - ((P.length+X.length+Y.length:Nat):Int))=((mid+(P.length+X.length) - (P.length+X.length+Y.length):Nat):Int):=by rw [zcf (by omega) (by omega)]; omega
  rw [e3,cond_true,wb,Wy.fin_bn]
  obtain ⟨t,l1,l2,l3,l4,l5⟩:=zbaM g hCW D hDN P.length (P.length+X.length+Y.length) (by omega) hd (P.length:Int) ((P.length+X.length:Nat):Int) ((P.length+X.length+Y.length:Nat):Int) (mid:Int) ((mid+(P.length+X.length):Nat):Int) (mid+(P.length+X.length) - 1) (mid+(P.length+X.length) - (P.length+X.length+Y.length)) mid (by omega) (by omega) (λc c1 c2=>by omega)
   (Int.toNat (P.length:Int)+Int.toNat ((P.length+X.length:Nat):Int)+Int.toNat ((P.length+X.length+Y.length:Nat):Int)+Int.toNat (mid:Int)+Int.toNat ((mid+(P.length+X.length):Nat):Int)+Int.toNat ((mid+(P.length+X.length) - (P.length+X.length+Y.length):Nat):Int)+Int.toNat (mid:Int)+Int.toNat ((mid+(P.length+X.length) - 1:Nat):Int)+D.length+(1000:Nat)) (mid+(P.length+X.length) - (P.length+X.length+Y.length)) mid (by omega) (by omega) (by omega) (by omega) (.inl rfl) (.inl rfl)
  rw [l1,cond_true];exact fin t (by omega) (by omega) (by omega) (by omega) (by rcases l4 with l4 | l4; exact .inr (.inl (by omega)); exact .inr (.inr l4)) (by rcases l5 with l5 | l5; exact .inl (by omega); exact .inr (.inr l5))
 ·have e3:decide (((P.length+X.length:Nat):Int)>(mid:Int))=false:=by rw [decide_eq_false_iff_not]; omega
  rw [e3,cond_false,Wy.fin_bn]
  obtain ⟨t,l1,l2,l3,l4,l5⟩:=zbaM g hCW D hDN P.length (P.length+X.length+Y.length) (by omega) hd (P.length:Int) ((P.length+X.length:Nat):Int) ((P.length+X.length+Y.length:Nat):Int) (mid:Int) ((mid+(P.length+X.length):Nat):Int) (mid+(P.length+X.length) - 1) P.length (P.length+X.length) (by omega) (by omega) (λc c1 c2=>by omega)
   (Int.toNat (P.length:Int)+Int.toNat ((P.length+X.length:Nat):Int)+Int.toNat ((P.length+X.length+Y.length:Nat):Int)+Int.toNat (mid:Int)+Int.toNat ((mid+(P.length+X.length):Nat):Int)+Int.toNat (P.length:Int)+Int.toNat ((P.length+X.length:Nat):Int)+Int.toNat ((mid+(P.length+X.length) - 1:Nat):Int)+D.length+(1000:Nat)) P.length (P.length+X.length) (by omega) (by omega) (by omega) (by omega) (.inl rfl) (.inl rfl)
  rw [l1,cond_true];exact fin t (by omega) (by omega) (by omega) (by omega) (by rcases l4 with l4 | l4; exact .inl (by omega); exact .inr (.inr l4)) (by rcases l5 with l5 | l5; exact .inr (.inl (by omega)); exact .inr (.inr l5))
end
theorem zbif {U:Wd->Prop} (hU:OW U):∀ n,z1R (zd1 n) U n
 | 0=>λP X Y S a m b _ h h1=>by omega
 | n+1=>by rw [zzL]; exact zbgT hU (zbif hU n)
theorem zbbs (k:Nat) {n bs a b:Int} (D:yE) (h:¬ b<=n):zc6 (k+1) n bs a b D=(true,(n,bs,a,D)):=by
 show (zed n bs a b D).ev _ _ _=_;unfold zed;rw [Wy.ev_i,decide_eq_false h]; rfl
theorem zbho (k:Nat) {n bs a b:Int} {D D':yE} (h:b<=n) (e:zcd D a b=(true,D')):zc6 (k+1) n bs a b D=zc6 k n bs b (IntKind.i64.wrap (b+bs)) D':=by
 show (zed n bs a b D).ev _ _ _=_;unfold zed;rw [Wy.ev_i,decide_eq_true h,cond_true,Wy.ev_bn,e]; rfl
theorem zbg5 (k:Nat) {n bs a b:Int} (D:yE) (h:¬ b<=n):ziO (k+1) n bs a b D=(true,(n,bs,a,D)):=by
 show (ziP n bs a b D).ev _ _ _=_;unfold ziP;rw [Wy.ev_i,decide_eq_false h]; rfl
theorem z4n (k:Nat) {n bs:Int} (D:yE) (h:¬ bs<n):zc9 (k+1) n bs D=(true,D):=by
 show (zef n bs D).ev _ _ _=_;unfold zef;rw [Wy.ev_i,decide_eq_false h]; rfl
theorem zbhf (k:Nat) {n:Int} {D D':yE} (h:20<n) (h4:n<40) (e:zfQ D 0 20 n=(true,D')):zc9 (k+2) n 20 D=(true,D'):=by
 show (zef n 20 D).ev _ _ _=_;unfold zef;have w:IntKind.i64.wrap ((2:Int)*20)=40:=by decide
 have w2:IntKind.i64.wrap ((0:Int)+20)=20:=by decide
 have w3:IntKind.i64.wrap ((20:Int)*2)=40:=by decide
 have e9:ziO (n.toNat +Int.toNat (20:Int)+Int.toNat (0:Int)+Int.toNat (40:Int)+D.length+(1000:Nat)) n 20 0 40 D=(true,(n,20,0,D)):=zbg5 (n.toNat +Int.toNat (20:Int)+Int.toNat (0:Int)+Int.toNat (40:Int)+D.length+999) D (by omega)
 simp only [Wy.ev_i,Wy.ev_bn,Wy.ev_k,Wy.ev_h,decide_eq_true h,cond_true,w,e9,w2,e,w3];exact z4n k D' (by omega)
theorem zbiH {U:Wd->Prop} (hU:OW U) {l:yE} (u:∀ y∈l,U y) (h4:l.length<40):∃ Z,zbY l=(true,Z)/\Z.Perm l/\zib Z:=by
 suffices h:∃ Z,zeU l (Int.ofNat l.length)=(true,Z)/\Z.Perm l/\zib Z by
  obtain ⟨Z,k1,k2,k3⟩:=h;refine ⟨Z, ?_,k2,k3⟩;unfold zbY zhW;rw [Wy.fin_bn,k1]; rfl
 rw [Int.ofNat_eq_natCast];unfold zeU zpi;by_cases hl:l.length<20
 ·have e2:zc6 (Int.toNat (l.length:Int)+Int.toNat (20:Int)+Int.toNat (0:Int)+Int.toNat (20:Int)+l.length+(1000:Nat)) l.length 20 0 20 l=(true,((l.length:Int),20,0,l)):=zbbs (Int.toNat (l.length:Int)+Int.toNat (20:Int)+Int.toNat (0:Int)+Int.toNat (20:Int)+l.length+999) l (by omega)
  obtain ⟨Z,k1,k2,k3⟩:=zbgR hU [] l [] (by simp; omega) u (by omega) 0 (l.length:Int) (by simp) (by simp)
  have e7:zc9 (Int.toNat (l.length:Int)+Int.toNat (20:Int)+Z.length+(1000:Nat)) l.length 20 Z=(true,Z):=z4n (Int.toNat (l.length:Int)+Int.toNat (20:Int)+Z.length+999) Z (by omega)
  rw [List.nil_append,List.append_nil,List.nil_append,List.append_nil] at k1;refine ⟨Z, ?_,k2,k3⟩;simp only [Wy.fin_bn,e2,k1,e7,cond_true,Wy.fin_k]
 ·have eA:l.take 20++l.drop 20=l:=List.take_append_drop 20 l;have lA:(l.take 20).length=20:=by rw [List.length_take]; omega
  have lB:(l.drop 20).length=l.length - 20:=List.length_drop;obtain ⟨A,a1,a2,a3⟩:=zbgR hU [] (l.take 20) (l.drop 20) (by simp; omega) (λy hy=>u y (List.mem_of_mem_take hy)) (by omega) 0 20 (by simp) (by simp [lA])
  rw [List.nil_append,List.nil_append,eA] at a1;have lA':A.length=20:=by rw [a2.length_eq,lA]
  obtain ⟨B,b1,b2,b3⟩:=zbgR hU A (l.drop 20) [] (by simp; omega) (λy hy=>u y (List.mem_of_mem_drop hy)) (by omega) 20 (l.length:Int) (by simp [lA']) (by rw [lA',lB]; omega)
  rw [List.append_nil,List.append_nil] at b1;have lB':B.length=l.length - 20:=by rw [b2.length_eq,lB]
  have w2:IntKind.i64.wrap ((20:Int)+20)=40:=by decide
  have e2:zc6 (Int.toNat (l.length:Int)+Int.toNat (20:Int)+Int.toNat (0:Int)+Int.toNat (20:Int)+l.length+(1000:Nat)) l.length 20 0 20 l=(true,((l.length:Int),20,20,A++l.drop 20)):=by
   have:=zbho (Int.toNat (l.length:Int)+Int.toNat (20:Int)+Int.toNat (0:Int)+Int.toNat (20:Int)+l.length+999) (n:=(l.length:Int)) (bs:=20) (by omega) a1
   rw [w2] at this;exact this.trans (zbbs (Int.toNat (l.length:Int)+Int.toNat (20:Int)+Int.toNat (0:Int)+Int.toNat (20:Int)+l.length+998) _ (by omega))
  have hp:(A++B).Perm l:=by
   have:=a2.append b2
   rwa [eA] at this
  by_cases h20:l.length=20
  ·have:B=[]:=List.length_eq_zero_iff.1 (by omega)
   subst this;rw [List.append_nil] at b1 hp;have e7:zc9 (Int.toNat (l.length:Int)+Int.toNat (20:Int)+A.length+(1000:Nat)) l.length 20 A=(true,A):=z4n (Int.toNat (l.length:Int)+Int.toNat (20:Int)+A.length+999) A (by omega)
   refine ⟨A, ?_,hp,a3⟩;simp only [Wy.fin_bn,e2,b1,e7,cond_true,Wy.fin_k]
  ·obtain ⟨Z,k1,k2,k3⟩:=zbif hU 1000 [] A B [] 0 20 (l.length:Int) (by simp; omega) (by omega) (by omega) (by omega) (λy hy=>u y (hp.mem_iff.1 hy)) a3 b3 (by simp) (by simp [lA']) (by simp [lA',lB']; omega)
   rw [List.nil_append,List.append_nil,List.nil_append,List.append_nil] at k1;have e7:zc9 (Int.toNat (l.length:Int)+Int.toNat (20:Int)+(A++B).length+(1000:Nat)) l.length 20 (A++B)=(true,Z):=zbhf (Int.toNat (l.length:Int)+Int.toNat (20:Int)+(A++B).length+998) (by omega) (by omega) k1
   refine ⟨Z, ?_,k2.trans hp,k3⟩;simp only [Wy.fin_bn,e2,b1,e7,cond_true,Wy.fin_k]
abbrev zT0:=yE×Unit×Int×Int×Unit
abbrev zDt:=yE×Unit
abbrev z7A:=yE×Int×Int×yE
abbrev zUC:=yE×Unit×Int×Unit
def zxC (l:yE) (i:Int) (k:Int) (out_:yE):Wy zT0 zDt z7A:=.i (decide (k<Int.ofNat out_.length)) (.i (decide (0<=k)&&decide (k<=IntKind.i64.wrap (k+1))&&decide (IntKind.i64.wrap (k+1)<=Int.ofNat out_.length)) (.i (decide (0<=i)&&decide (i<=IntKind.i64.wrap (i+1))&&decide (IntKind.i64.wrap (i+1)<=Int.ofNat l.length)) (.bn (zuL (List.take ((IntKind.i64.wrap (k+1)).toNat - k.toNat) (List.drop k.toNat out_)) (List.take ((IntKind.i64.wrap (i+1)).toNat - i.toNat) (List.drop i.toNat l))) λr0=>.i (decide (r0<=0)) (.h (l,(),i,(IntKind.i64.wrap (k+1)),()) (out_,())) (.k (l,i,k,out_))) .d) .d) (.k (l,i,k,out_))
def zTX (x:zT0) (y:zDt):=zxC x.1 x.2.2.1 x.2.2.2.1 y.1
def zUj (n:Nat) (l:yE) (i:Int) (k:Int) (out_:yE):=zC (zTX) default n (l,(),i,k,()) (out_,())
def zxP (l:yE) (i:Int) (out_:yE):Wy zUC zDt (yE):=.i (decide (i<Int.ofNat l.length)) (.i (decide (0<=i)&&decide (i<Int.ofNat l.length)) (.i (Int.ofNat (l.getD i.toNat default).Ann.length==0) (.h (l,(),(IntKind.i64.wrap (i+1)),()) (out_,())) (.bn (zUj (l.length+i.toNat +Int.toNat 0+out_.length+1) l i 0 out_) λr2=>.i (decide ((0:Int)<=(0:Int))&&decide (0<=r2.2.2.1)&&decide (r2.2.2.1<=Int.ofNat r2.2.2.2.length)) (.i (decide ((0+(List.take (r2.2.2.1.toNat - Int.toNat 0) (List.drop (Int.toNat 0) r2.2.2.2)).length)*56<=zO)) (.i (decide (0<=r2.2.1)&&decide (r2.2.1<Int.ofNat r2.1.length)) (.i (decide ((([]++List.take (r2.2.2.1.toNat - Int.toNat 0) (List.drop (Int.toNat 0) r2.2.2.2)).length+[r2.1.getD r2.2.1.toNat default].length)*56<=zO)) (.i (decide (0<=r2.2.2.1)&&decide (r2.2.2.1<=Int.ofNat r2.2.2.2.length)&&decide (Int.ofNat r2.2.2.2.length<=Int.ofNat r2.2.2.2.length)) (.i (decide ((([]++List.take (r2.2.2.1.toNat - Int.toNat 0) (List.drop (Int.toNat 0) r2.2.2.2)++[r2.1.getD r2.2.1.toNat default]).length+(List.take ((Int.ofNat r2.2.2.2.length).toNat - r2.2.2.1.toNat) (List.drop r2.2.2.1.toNat r2.2.2.2)).length)*56<=zO)) (.h ((r2.1),(),(IntKind.i64.wrap (r2.2.1+1)),()) (([]++List.take (r2.2.2.1.toNat - Int.toNat 0) (List.drop (Int.toNat 0) r2.2.2.2)++[r2.1.getD r2.2.1.toNat default]++List.take ((Int.ofNat r2.2.2.2.length).toNat - r2.2.2.1.toNat) (List.drop r2.2.2.1.toNat r2.2.2.2)),())) .d) .d) .d) .d) .d) .d)) .d) (.k out_)
def zTH (x:zUC) (y:zDt):=zxP x.1 x.2.2.1 y.1
def zTl (n:Nat) (l:yE) (i:Int) (out_:yE):=zC (zTH) default n (l,(),i,()) (out_,())
def zXm (l:yE):Wy0 (yE):=.bn (zTl (l.length+Int.toNat 0+0+1) l 0 []) λr4=>.k r4
def zSS (l:yE):=(zXm l).fin default
def zRj (op:Int) (sign:Int):Wy0 (Bool):=.i (op==5) (.k (sign==0)) (.i (op==6) (.k (sign != 0)) (.i (op==7) (.k (decide (sign<0))) (.i (op==8) (.k (decide (sign<=0))) (.i (op==9) (.k (decide (sign>0))) (.i (op==10) (.k (decide (sign≥0))) (.k false))))))
def zMh (op:Int) (sign:Int):=(zRj op sign).fin default
end Go.Proofs.YtljlfiomikifjaaGreatDoor
end
