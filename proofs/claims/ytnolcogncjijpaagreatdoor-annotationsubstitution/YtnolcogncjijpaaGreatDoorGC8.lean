/- Texts of this claim, joined (the program, its functions in plain words, and what they compute). -/
import Derived.Test.YtnolcogncjijpaaGreatDoorGC7
import Derived.Test.YtnolcogncjijpaaGreatDoorGA3
import Derived.Test.YtnolcogncjijpaaGreatDoorGC4
import Derived.Test.YtnolcogncjijpaaGreatDoorGC5
import Derived.Test.YtnolcogncjijpaaGreatDoorGC3
import Derived.Test.YtnolcogncjijpaaGreatDoorGC6
import Derived.Test.YtnolcogncjijpaaGreatDoorGC1
import Derived.Test.YtnolcogncjijpaaGreatDoorGA2
set_option autoImplicit false
set_option linter.unusedVariables false
set_option linter.unusedSectionVars false
set_option linter.unusedSimpArgs false
set_option maxRecDepth 1000000
set_option maxHeartbeats 0
/- Texts of annotations can be read back: equal texts of factors are texts of equal factors. -/
noncomputable section
namespace Go.Proofs.YtnolcogncjijpaaGreatDoor
open Go Go.Ab
theorem zSF:∀ n,
  (∀ m a,zbA m a=true→zfs a→3*m≤n→zlW n a=(true,bs (txN a)))∧
  (∀ m x,zdT (zbA m) x=true→zfr x→x.Items.length≤1024→3*m+1≤n→zkc n x=(true,bs (txA x)))∧
  (∀ m (l:List Factor),l.length≤1000→(∀ f∈l,zdT (zbA m) f.Atom=true∧zfr f.Atom∧f.Atom.Items.length≤1024∧rng f.Exp)→3*m+2≤n→zfe n l=(true,bs (txL l)))
 | 0=>by
  refine ⟨?_, ?_, ?_⟩
  ·intro m a h _ hm; have:m=0:=by omega
   subst this; cases h
  all_goals (intros; omega)
 | n+1=>by
  obtain ⟨h1,h2,h3⟩:=zSF n
  refine ⟨?_, ?_, ?_⟩
  ·intro m a h hw hm
   cases m with
   | zero=>cases h
   | succ m=>
    have hl:=ztN (zAt h)
    have hlen:=(zMI (m+1)).1 a h
    rw [zJr]
    refine zZg _ a (by omega) (by omega) fun t ht=> ?_
    obtain ⟨⟨c1,c2⟩,hok⟩:=zqf h ht
    obtain ⟨q1,q2⟩:=hl.2.2.2 t ht
    have hwt:=zlQ (zqw (zoo hw t ht)).2.1
    refine ⟨h3 m t.Factors (by omega) (fun f hf=> ?_) (by omega), ?_,by constructor <;>omega⟩
    ·obtain ⟨⟨e1,_⟩,hv⟩:=zme hok hf
     exact ⟨hv,(zmX (hwt f hf)).1,(q2 f hf).2,by have:=(q2 f hf).1; constructor <;>omega⟩
    ·refine Nat.le_trans (zSu fun f hf=>(zMI m).2 _ (zme hok hf).2) ?_
     have hs:t.Factors.length+zbM t.Factors≤zP a:=by
      clear hok q1 q2 hwt hw h hlen hl
      induction a with
      | nil=>cases ht
      | cons b r ih=>
       rw [zi9]
       rcases List.mem_cons.1 ht with rfl | ht
       ·omega
       ·have:=ih ht; omega
     omega
  ·intro m x h hw hi hm
   rw [zB6]
   have W:=zmf hw
   refine zY6 _ x h hw hi fun a ha=> ?_
   have hv:zbA m a=true∧zfs a:=by
    rcases ha with ha | ⟨w,hw',rfl⟩
    ·refine ⟨?_,(zis W.1.1 a ha).1⟩
     cases zdp.1 h with
     | var r h=>cases ha
     | mon b c hb hc _ _ _=>
      simp only [List.mem_cons,List.not_mem_nil,or_false] at ha
      rcases ha with rfl | rfl
      ·exact hb
      ·exact hc
     | del b hb _ _ _=>rw [List.mem_singleton] at ha; subst ha; exact hb
     | abs b hb _ _=>rw [List.mem_singleton] at ha; subst ha; exact hb
     | tst f l o b hl hi hs hf=>cases ha
    ·refine ⟨?_,(zg6 W.2.1.1 w hw').2.1⟩
     cases zdp.1 h with
     | tst f l o b hl hi2 hs hf=>exact (hi2 w hw').1
     | _=>cases hw'
   refine ⟨h1 m a hv.1 hv.2 (by omega), ?_⟩
   have q1:=(zMI m).1 a hv.1
   have q2:=(zeH hv.1).2.1
   omega
  ·intro m l hl h hm
   rw [zyk]
   refine zY9 _ l hl fun f hf=> ?_
   obtain ⟨q1,q2,q3,q4⟩:=h f hf
   refine ⟨h2 m f.Atom q1 q2 q3 (by omega), ?_,q4⟩
   have q5:=(zMI m).2 f.Atom q1
   have q6:=zNP q1 q3
   omega
def hd (S:List UInt8) (u:List UInt8):Prop:=∀ c,u.head? =some c→c∈S
theorem zmI {S:List UInt8} {c:UInt8} {u:List UInt8} (h:c∈S):hd S (c::u):=fun d hd=>by
 simp only [List.head?_cons,Option.some.injEq] at hd; subst hd; exact h
theorem hd.mono {S T:List UInt8} {u:List UInt8} (h:hd S u) (hs:∀ c∈S,c∈T):hd T u:=fun c hc=>hs c (h c hc)
theorem hd.noDig {S:List UInt8} {u:List UInt8} (h:hd S u) (hs:∀ c∈S,isDg c=false):noDig u:=fun c hc=>hs c (h c hc)
theorem hd.ne {S:List UInt8} {u:List UInt8} (h:hd S u) {c:UInt8} (hs:c∉S):u.head? ≠some c:=fun e=>hs (h c e)
theorem hd.cons_ne {S:List UInt8} {u:List UInt8} {c:UInt8} (h:hd S (c::u)) (hs:c∉S):False:=hs (h c rfl)
theorem zFB {α:Type} (tx:α→List UInt8) (S0:List UInt8) (s0:UInt8) (sr:List UInt8) (P:α→Prop) (hS:s0∉S0) (hR:∀ x y,P x→P y→∀ u v,hd (s0::S0) u→hd (s0::S0) v→tx x++u=tx y++v→x=y∧u=v):
  ∀ l l':List α,l≠[]→l'≠[]→(∀ x∈l,P x)→(∀ x∈l',P x)→∀ u v,hd S0 u→hd S0 v→zd9 (l.map tx) (s0::sr)++u=zd9 (l'.map tx) (s0::sr)++v→l=l'∧u=v
 | [],_,h,_,_,_,_,_,_,_,_=>absurd rfl h
 | _::_,[],_,h,_,_,_,_,_,_,_=>absurd rfl h
 | [x],[y],_,_,hx,hy,u,v,hu,hv,h=>by
  have mono:∀ c∈S0,c∈s0::S0:=fun c hc=>List.mem_cons_of_mem _ hc
  obtain ⟨h1,h2⟩:=hR x y (hx x (by simp)) (hy y (by simp)) u v (hu.mono mono) (hv.mono mono) h
  exact ⟨by rw [h1],h2⟩
 | [x],y::y'::r',_,_,hx,hy,u,v,hu,hv,h=>by
  have mono:∀ c∈S0,c∈s0::S0:=fun c hc=>List.mem_cons_of_mem _ hc
  simp only [List.map,zd9,List.append_assoc] at h
  obtain ⟨h1,h2⟩:=hR x y (hx x (by simp)) (hy y (by simp)) u _ (hu.mono mono) (zmI (by simp)) h
  rw [h2] at hu
  exact (hu.cons_ne hS).elim
 | x::x'::r,[y],_,_,hx,hy,u,v,hu,hv,h=>by
  have mono:∀ c∈S0,c∈s0::S0:=fun c hc=>List.mem_cons_of_mem _ hc
  simp only [List.map,zd9,List.append_assoc] at h
  obtain ⟨h1,h2⟩:=hR x y (hx x (by simp)) (hy y (by simp)) _ v (zmI (by simp)) (hv.mono mono) h
  rw [← h2] at hv
  exact (hv.cons_ne hS).elim
 | x::x'::r,y::y'::r',_,_,hx,hy,u,v,hu,hv,h=>by
  have h:zd9 (((x::x'::r)).map tx) (s0::sr)++u=zd9 (((y::y'::r')).map tx) (s0::sr)++v:=h
  simp only [List.map,zd9,List.append_assoc] at h
  obtain ⟨h1,h2⟩:=hR x y (hx x (by simp)) (hy y (by simp)) _ _ (zmI (by simp)) (zmI (by simp)) h
  have h3:=(List.append_right_inj sr).1 (List.cons.inj h2).2
  obtain ⟨h4,h5⟩:=zFB tx S0 s0 sr P hS hR (x'::r) (y'::r') (by simp) (by simp) (fun z hz=>hx z (List.mem_cons_of_mem _ hz)) (fun z hz=>hy z (List.mem_cons_of_mem _ hz)) u v hu hv h3
  exact ⟨by rw [h1,h4],h5⟩
theorem zR7 {t:ByteArray} (h:t.size=0):t=ByteArray.mk #[]:=zAb (by
 have:t.data.toList.length=0:=by rw [Array.length_toList]; exact h
 rw [List.length_eq_zero_iff.1 this])
theorem zSv {x y:Value} (hx:valV x=true) (hy:valV y=true) (rx:rng x.Int) (ry:rng y.Int) {u v:List UInt8} (hu:hd [58,93] u) (hv:hd [58,93] v) (h:txV x++u=txV y++v):x=y∧u=v:=by
 have d1:∀ c∈([58,93]:List UInt8),isDg c=false:=by decide
 obtain ⟨cx,sx,ex,dx⟩:=zRv rx.1 rx.2
 obtain ⟨cy,sy,ey,dy⟩:=zRv ry.1 ry.2
 have nd:∀ c:UInt8,c=45∨isDg c=true→c≠39∧c≠84∧c≠70:=fun c hc=>by
  refine ⟨?_, ?_, ?_⟩ <;>(intro e; subst e; revert hc; decide)
 obtain ⟨kx,ix,tx⟩:=x
 obtain ⟨ky,iy,ty⟩:=y
 simp only [valV,Bool.or_eq_true,Bool.and_eq_true,beq_iff_eq,decide_eq_true_eq] at hx hy
 simp only at rx ry ex ey
 rcases hx with (⟨rfl,hx⟩ | ⟨⟨rfl,rfl⟩,hx⟩) | ⟨⟨rfl,hx⟩,hx2⟩
 ·have:=zR7 hx; subst this
  rcases hy with (⟨rfl,hy⟩ | ⟨⟨rfl,rfl⟩,hy⟩) | ⟨⟨rfl,hy⟩,hy2⟩
  ·have:=zR7 hy; subst this
   simp only [txV,if_true] at h
   obtain ⟨h1,h2⟩:=zqc rx ry (hu.noDig d1) (hv.noDig d1) h
   exact ⟨by rw [h1],h2⟩
  ·simp only [txV,if_true,show ¬ (1:Int)=0 by decide,if_false,ex,List.cons_append,List.cons.injEq] at h
   exact absurd h.1 (nd cx dx).1
  ·rcases hy2 with rfl | rfl
   ·simp only [txV,if_true,show ¬ (2:Int)=0 by decide,show ¬ (2:Int)=1 by decide,show ¬ (0:Int)=1 by decide,if_false,ex,List.cons_append,List.cons.injEq] at h
    exact absurd h.1 (nd cx dx).2.2
   ·simp only [txV,if_true,show ¬ (2:Int)=0 by decide,show ¬ (2:Int)=1 by decide,if_false,ex,List.cons_append,List.cons.injEq] at h
    exact absurd h.1 (nd cx dx).2.1
 ·rcases hy with (⟨rfl,hy⟩ | ⟨⟨rfl,rfl⟩,hy⟩) | ⟨⟨rfl,hy⟩,hy2⟩
  ·simp only [txV,if_true,show ¬ (1:Int)=0 by decide,if_false,ey,List.cons_append,List.cons.injEq] at h
   exact absurd h.1.symm (nd cy dy).1
  ·simp only [txV,if_true,show ¬ (1:Int)=0 by decide,if_false,List.cons_append,List.cons.injEq,true_and,List.append_assoc,List.nil_append] at h
   obtain ⟨h1,h2⟩:=zN1 _ _ u v (hu.ne (by decide)) (hv.ne (by decide)) h
   exact ⟨by rw [zAb h1],h2⟩
  ·rcases hy2 with rfl | rfl <;>simp [txV] at h
 ·have:=zR7 hx; subst this
  rcases hy with (⟨rfl,hy⟩ | ⟨⟨rfl,rfl⟩,hy⟩) | ⟨⟨rfl,hy⟩,hy2⟩
  ·rcases hx2 with rfl | rfl
   ·simp only [txV,if_true,show ¬ (2:Int)=0 by decide,show ¬ (2:Int)=1 by decide,show ¬ (0:Int)=1 by decide,if_false,ey,List.cons_append,List.cons.injEq] at h
    exact absurd h.1.symm (nd cy dy).2.2
   ·simp only [txV,if_true,show ¬ (2:Int)=0 by decide,show ¬ (2:Int)=1 by decide,if_false,ey,List.cons_append,List.cons.injEq] at h
    exact absurd h.1.symm (nd cy dy).2.1
  ·rcases hx2 with rfl | rfl <;>simp [txV] at h
  ·have:=zR7 hy; subst this
   rcases hx2 with rfl | rfl <;>rcases hy2 with rfl | rfl <;>simp [txV] at h
   ·exact ⟨rfl,h⟩
   ·exact ⟨rfl,h⟩
theorem zW2 {f g:Int} (hf:0≤f∧f≤3) (hg:0≤g∧g≤3) {u v:List UInt8} (h:fnT f++123::u=fnT g++123::v):f=g∧u=v:=by
 have c1:f=0∨f=1∨f=2∨f=3:=by omega
 have c2:g=0∨g=1∨g=2∨g=3:=by omega
 rcases c1 with rfl | rfl | rfl | rfl <;>rcases c2 with rfl | rfl | rfl | rfl <;>simp [fnT] at h <;>exact ⟨rfl,h⟩
theorem zW8 {f g:Int} (hf:5≤f∧f≤10) (hg:5≤g∧g≤10) {u v:List UInt8} (h:opT f++32::u=opT g++32::v):f=g∧u=v:=by
 have c1:f=5∨f=6∨f=7∨f=8∨f=9∨f=10:=by omega
 have c2:g=5∨g=6∨g=7∨g=8∨g=9∨g=10:=by omega
 rcases c1 with rfl | rfl | rfl | rfl | rfl | rfl <;>rcases c2 with rfl | rfl | rfl | rfl | rfl | rfl <;>simp [opT] at h <;>exact ⟨rfl,h⟩
def SN:List UInt8:=[93,44,59,125]
def ST:List UInt8:=32::SN
def SF:List UInt8:=42::ST
def SA:List UInt8:=94::SF
theorem zOJ:∀ c∈SA,isDg c=false:=by decide
theorem zZx:∀ c∈ST,c∈SA:=by decide
theorem zO1:∀ c∈SF,c∈SA:=by decide
def RdN (V:List Term→Bool):Prop:=∀ a b,V a=true→V b=true→zfs a→zfs b→∀ u v,hd SN u→hd SN v→txN a++u=txN b++v→a=b∧u=v
def RdA (V:List Term→Bool):Prop:=∀ x y,zdT V x=true→zdT V y=true→zfr x→zfr y→∀ u v,hd SA u→hd SA v→txA x++u=txA y++v→x=y∧u=v
theorem zXq {V:List Term→Bool} {x:Atom} (h:zdT V x=true):∃ c r,txA x=c::r∧isDg c=false:=by
 cases zdp.1 h with
 | var r h=>rw [txA]; exact ⟨116,_,rfl,rfl⟩
 | mon a b _ _ _ _ _=>rw [txA]; exact ⟨109,_,rfl,rfl⟩
 | del a _ _ _ _=>rw [txA]; exact ⟨100,_,rfl,rfl⟩
 | abs a _ _ _=>rw [txA]; exact ⟨97,_,rfl,rfl⟩
 | tst f l o b _ _ _ _=>rw [txA]; exact ⟨116,_,rfl,rfl⟩
theorem zVI {V:List Term→Bool} (hV:RdN V):RdA V:=by
 intro x y hx hy wx wy u v hu hv h
 have Wx:=zmf wx
 have Wy:=zmf wy
 have k0:¬ (1:Int)=0:=by decide
 have c44:∀ z,hd SN (44::z):=fun z=>zmI (by decide)
 have c93:∀ z,hd SN (93::z):=fun z=>zmI (by decide)
 have tE:∀ (r:RowID),ztR r=true→rng r.Table→∀ w z,zhw r.Table++w≠101::z:=fun r hr hg w z e=>by
  simp only [ztR,Bool.and_eq_true,decide_eq_true_eq] at hr
  obtain ⟨d1,d2⟩:=zWi (show 0≤r.Table by omega) hg.2
  cases hl:zhw r.Table with
  | nil=>exact d2 hl
  | cons c s=>
   rw [hl] at e d1
   simp only [List.cons_append,List.cons.injEq] at e
   rw [List.all_cons,e.1] at d1
   revert d1; simp [isDg]
 cases zdp.1 hx with
 | var r hr=>
  have rr:=Wx.2.2.2.2.1
  simp only at rr
  cases zdp.1 hy with
  | var r' hr'=>
   have rr':=Wy.2.2.2.2.1
   simp only at rr'
   rw [txA,txA] at h
   simp only [zcR,if_true,txR,List.cons_append,List.cons.injEq,true_and,List.append_assoc] at h
   obtain ⟨h1,h2⟩:=zqc (zkv rr.1) (zkv rr'.1) (fun c hc=>by simp only [List.head?_cons,Option.some.injEq] at hc; subst hc; rfl) (fun c hc=>by simp only [List.head?_cons,Option.some.injEq] at hc; subst hc; rfl) h
   simp only [List.cons.injEq,true_and] at h2
   obtain ⟨h3,h4⟩:=zqc (zkv rr.2) (zkv rr'.2) (hu.noDig zOJ) (hv.noDig zOJ) h2
   obtain ⟨t,s⟩:=r; obtain ⟨t',s'⟩:=r'
   simp only at h1 h3
   exact ⟨by rw [h1,h3],h4⟩
  | tst f l o b _ _ _ _=>
   rw [txA,txA] at h
   simp only [zcR,if_true,txR,show ¬ (4:Int)=0 by decide,show ¬ (4:Int)=1 by decide,show ¬ (4:Int)=2 by decide,show ¬ (4:Int)=3 by decide,if_false,List.cons_append,List.cons.injEq,true_and,List.append_assoc] at h
   exact absurd h (tE r hr (zkv rr.1) _ _)
  | mon a b _ _ _ _ _=>rw [txA,txA] at h; simp [zcR,txR] at h
  | del a _ _ _ _=>rw [txA,txA] at h; simp [zcR,txR] at h
  | abs a _ _ _=>rw [txA,txA] at h; simp [zcR,txR] at h
 | mon a b ha hb _ _ _=>
  cases zdp.1 hy with
  | mon a' b' ha' hb' _ _ _=>
   rw [txA,txA,zkz,zkz] at h
   simp only [zcR,if_true,k0,if_false,List.map,List.getD_cons_zero,List.getD_cons_succ,List.cons_append,List.cons.injEq,true_and,List.append_assoc,List.nil_append] at h
   have wa:=fun z hz=>(zis Wx.1.1 z hz).1
   have wb:=fun z hz=>(zis Wy.1.1 z hz).1
   obtain ⟨h1,h2⟩:=hV a a' ha ha' (wa a (by simp)) (wb a' (by simp)) _ _ (c44 _) (c44 _) h
   simp only [List.cons.injEq,true_and] at h2
   obtain ⟨h3,h4⟩:=hV b b' hb hb' (wa b (by simp)) (wb b' (by simp)) _ _ (c93 _) (c93 _) h2
   simp only [List.cons.injEq,true_and] at h4
   exact ⟨by rw [h1,h3],h4⟩
  | var r h=>rw [txA,txA] at h; simp [zcR,txR] at h
  | del a _ _ _ _=>rw [txA,txA] at h; simp [zcR,txR] at h
  | abs a _ _ _=>rw [txA,txA] at h; simp [zcR,txR] at h
  | tst f l o b _ _ _ _=>rw [txA,txA] at h; simp [zcR,txR] at h
 | del a ha _ _ _=>
  cases zdp.1 hy with
  | del a' ha' _ _ _=>
   rw [txA,txA,zkz,zkz] at h
   simp only [zcR,if_true,show ¬ (2:Int)=0 by decide,show ¬ (2:Int)=1 by decide,if_false,List.map,List.getD_cons_zero,List.cons_append,List.cons.injEq,true_and,List.append_assoc,List.nil_append] at h
   have wa:=fun z hz=>(zis Wx.1.1 z hz).1
   have wb:=fun z hz=>(zis Wy.1.1 z hz).1
   obtain ⟨h1,h2⟩:=hV a a' ha ha' (wa a (by simp)) (wb a' (by simp)) _ _ (c93 _) (c93 _) h
   simp only [List.cons.injEq,true_and] at h2
   exact ⟨by rw [h1],h2⟩
  | var r h=>rw [txA,txA] at h; simp [zcR,txR] at h
  | mon a b _ _ _ _ _=>rw [txA,txA] at h; simp [zcR,txR] at h
  | abs a _ _ _=>rw [txA,txA] at h; simp [zcR,txR] at h
  | tst f l o b _ _ _ _=>rw [txA,txA] at h; simp [zcR,txR] at h
 | abs a ha _ _=>
  cases zdp.1 hy with
  | abs a' ha' _ _=>
   rw [txA,txA,zkz,zkz] at h
   simp only [zcR,if_true,show ¬ (3:Int)=0 by decide,show ¬ (3:Int)=1 by decide,show ¬ (3:Int)=2 by decide,if_false,List.map,List.getD_cons_zero,List.cons_append,List.cons.injEq,true_and,List.append_assoc,List.nil_append] at h
   have wa:=fun z hz=>(zis Wx.1.1 z hz).1
   have wb:=fun z hz=>(zis Wy.1.1 z hz).1
   obtain ⟨h1,h2⟩:=hV a a' ha ha' (wa a (by simp)) (wb a' (by simp)) _ _ (c93 _) (c93 _) h
   simp only [List.cons.injEq,true_and] at h2
   exact ⟨by rw [h1],h2⟩
  | var r h=>rw [txA,txA] at h; simp [zcR,txR] at h
  | mon a b _ _ _ _ _=>rw [txA,txA] at h; simp [zcR,txR] at h
  | del a _ _ _ _=>rw [txA,txA] at h; simp [zcR,txR] at h
  | tst f l o b _ _ _ _=>rw [txA,txA] at h; simp [zcR,txR] at h
 | tst f l o b hl hi hs hf=>
  cases zdp.1 hy with
  | tst f' l' o' b' hl' hi' hs' hf'=>
   obtain ⟨⟨f0,f3,o5,o10⟩,hb,hit⟩:=zob hf
   obtain ⟨⟨f0',f3',o5',o10'⟩,hb',hit'⟩:=zob hf'
   have wl:=zg6 Wx.2.1.1
   have wl':=zg6 Wy.2.1.1
   rw [txA,txA,zEM,zEM] at h
   simp only [zcR,show ¬ (4:Int)=0 by decide,show ¬ (4:Int)=1 by decide,show ¬ (4:Int)=2 by decide,show ¬ (4:Int)=3 by decide,if_false,List.cons_append,List.cons.injEq,true_and,List.append_assoc,List.nil_append] at h
   obtain ⟨h1,h2⟩:=zW2 ⟨f0,f3⟩ ⟨f0',f3'⟩ h
   obtain ⟨h3,h4⟩:=zFB txI [125] 59 [32] (fun w=>(V w.Ann=true∧zfs w.Ann)∧valV w.Value=true∧rng w.Value.Int) (by decide) (fun x y px py u v hu hv e=>by
    simp only [txI,List.append_assoc,List.cons_append,List.nil_append] at e
    obtain ⟨e1,e2⟩:=zSv px.2.1 py.2.1 px.2.2 py.2.2 (zmI (by decide)) (zmI (by decide)) e
    simp only [List.cons.injEq,true_and] at e2
    obtain ⟨e3,e4⟩:=hV _ _ px.1.1 py.1.1 px.1.2 py.1.2 u v (hu.mono (by decide)) (hv.mono (by decide)) e2
    obtain ⟨vx,ax⟩:=x; obtain ⟨vy,ay⟩:=y
    simp only at e1 e3
    exact ⟨by rw [e1,e3],e4⟩) l l' hl hl' (fun w hw=>⟨⟨(hi w hw).1,(wl w hw).2.1⟩,(hit w hw).1,zkv (wl w hw).1.2.1⟩) (fun w hw=>⟨⟨(hi' w hw).1,(wl' w hw).2.1⟩,(hit' w hw).1,zkv (wl' w hw).1.2.1⟩) _ _ (zmI (by decide)) (zmI (by decide)) h2
   simp only [List.cons.injEq,true_and] at h4
   obtain ⟨h5,h6⟩:=zW8 ⟨o5,o10⟩ ⟨o5',o10'⟩ h4
   obtain ⟨h7,h8⟩:=zSv hb hb' (zkv Wx.2.2.1.2.1) (zkv Wy.2.2.1.2.1) (zmI (by decide)) (zmI (by decide)) h6
   simp only [List.cons.injEq,true_and] at h8
   exact ⟨by rw [h1,h3,h5,h7],h8⟩
  | var r hr=>
   have rr:=Wy.2.2.2.2.1
   simp only at rr
   rw [txA,txA] at h
   simp only [zcR,if_true,txR,show ¬ (4:Int)=0 by decide,show ¬ (4:Int)=1 by decide,show ¬ (4:Int)=2 by decide,show ¬ (4:Int)=3 by decide,if_false,List.cons_append,List.cons.injEq,true_and,List.append_assoc] at h
   exact absurd h.symm (tE r hr (zkv rr.1) _ _)
  | mon a b _ _ _ _ _=>rw [txA,txA] at h; simp [zcR,txR] at h
  | del a _ _ _ _=>rw [txA,txA] at h; simp [zcR,txR] at h
  | abs a _ _ _=>rw [txA,txA] at h; simp [zcR,txR] at h
def gF (V:List Term→Bool) (f:Factor):Prop:=zdT V f.Atom=true∧zfr f.Atom∧rng f.Exp
theorem zZk {V:List Term→Bool} (hA:RdA V) {f g:Factor} (hf:gF V f) (hg:gF V g) {u v:List UInt8} (hu:hd SF u) (hv:hd SF v) (h:txF f++u=txF g++v):f=g∧u=v:=by
 obtain ⟨x,e⟩:=f; obtain ⟨y,e'⟩:=g
 obtain ⟨a1,a2,a3⟩:=hf; obtain ⟨b1,b2,b3⟩:=hg
 simp only at a1 a2 a3 b1 b2 b3
 have c94:∀ z,hd SA (94::z):=fun z=>zmI (by decide)
 have n94:(94:UInt8)∉SF:=by decide
 have dg:∀ c∈SF,isDg c=false:=fun c hc=>zOJ c (zO1 c hc)
 unfold txF zFW at h
 simp only at h
 by_cases h1:e=1
 ·by_cases h2:e'=1
  ·rw [if_pos h1,if_pos h2] at h
   obtain ⟨q1,q2⟩:=hA x y a1 b1 a2 b2 u v (hu.mono zO1) (hv.mono zO1) h
   exact ⟨by rw [q1,h1,h2],q2⟩
  ·rw [if_pos h1,if_neg h2,List.append_assoc] at h
   obtain ⟨q1,q2⟩:=hA x y a1 b1 a2 b2 u _ (hu.mono zO1) (c94 _) h
   rw [q2] at hu
   exact (hu.cons_ne n94).elim
 ·by_cases h2:e'=1
  ·rw [if_neg h1,if_pos h2,List.append_assoc] at h
   obtain ⟨q1,q2⟩:=hA x y a1 b1 a2 b2 _ v (c94 _) (hv.mono zO1) h
   rw [← q2] at hv
   exact (hv.cons_ne n94).elim
  ·rw [if_neg h1,if_neg h2,List.append_assoc,List.append_assoc] at h
   obtain ⟨q1,q2⟩:=hA x y a1 b1 a2 b2 _ _ (c94 _) (c94 _) h
   simp only [List.cons_append,List.cons.injEq,true_and] at q2
   obtain ⟨q3,q4⟩:=zqc a3 b3 (hu.noDig dg) (hv.noDig dg) q2
   exact ⟨by rw [q1,q3],q4⟩
theorem zP8 {V:List Term→Bool} (hA:RdA V) {l l':List Factor} (hl:l≠[]) (hl':l'≠[]) (h1:∀ f∈l,gF V f) (h2:∀ f∈l',gF V f) {u v:List UInt8} (hu:hd ST u) (hv:hd ST v) (h:txL l++u=txL l'++v):l=l'∧u=v:=by
 unfold txL at h
 rw [zs8,zs8] at h
 exact zFB txF ST 42 [] (gF V) (by decide) (fun x y px py u v hu hv e=>zZk hA px py hu hv e) l l' hl hl' h1 h2 u v hu hv h
theorem zzT {V:List Term→Bool} {l:List Factor} (hl:l≠[]) (h:∀ f∈l,gF V f):∃ c r,txL l=c::r∧isDg c=false:=by
 cases l with
 | nil=>exact absurd rfl hl
 | cons f r=>
  obtain ⟨c,s,e,hc⟩:=zXq (h f (by simp)).1
  have:∃ s',txF f=c::s':=by
   unfold txF zFW
   split
   ·exact ⟨s,e⟩
   ·exact ⟨_,by rw [e]; rfl⟩
  obtain ⟨s',e'⟩:=this
  unfold txL
  rw [zs8]
  cases r with
  | nil=>exact ⟨c,s',by simp only [List.map,zd9]; exact e',hc⟩
  | cons g r=>exact ⟨c,_,by simp only [List.map,zd9]; rw [e']; rfl,hc⟩
def gT (V:List Term→Bool) (t:Term):Prop:=(1≤t.Coeff∧t.Coeff≤9223372036854775807)∧∀ f∈t.Factors,gF V f
theorem zQL {n:Int} (h:1≤n) (h2:n≤9223372036854775807):∃ c r,zhw n=c::r∧isDg c=true∧c≠48:=by
 have e:zhw n=Lib.decDigits n.toNat:=by rw [zOt (by omega) h2,Lib.itoa,if_neg (by omega)]
 obtain ⟨a1,a2,a3,a4⟩:=zLA n.toNat n.toNat (Nat.le_refl _)
 rw [e]
 cases hl:Lib.decDigits n.toNat with
 | nil=>exact absurd hl a3
 | cons c r=>
  rw [hl] at a1 a4
  rw [List.all_cons,Bool.and_eq_true] at a1
  exact ⟨c,r,rfl,a1.1,fun e=>a4 (by omega) (by rw [e]; rfl)⟩
theorem zTc {l:List Factor}:txFs l=[]↔l=[]:=by rw [zs8,List.map_eq_nil_iff]
theorem zTo (t:Term):txT t=if t.Factors=[] then zhw t.Coeff else if t.Coeff=1 then txL t.Factors else zhw t.Coeff++42::txL t.Factors:=by
 unfold txT zMw
 by_cases h:t.Factors=[]
 ·rw [if_pos (zTc.2 h),if_pos h]
 ·rw [if_neg (fun e=>h (zTc.1 e)),if_neg h]; rfl
theorem zZf {V:List Term→Bool} (hA:RdA V) {s t:Term} (hs:gT V s) (ht:gT V t) {u v:List UInt8} (hu:hd ST u) (hv:hd ST v) (h:txT s++u=txT t++v):s=t∧u=v:=by
 obtain ⟨c,l⟩:=s; obtain ⟨c',l'⟩:=t
 obtain ⟨⟨c1,c2⟩,h1⟩:=hs; obtain ⟨⟨c1',c2'⟩,h2⟩:=ht
 simp only at c1 c2 h1 c1' c2' h2
 have dg:∀ c∈ST,isDg c=false:=fun c hc=>zOJ c (zZx c hc)
 have n42:(42:UInt8)∉ST:=by decide
 have d42:∀ z,noDig (42::z):=fun z c hc=>by simp only [List.head?_cons,Option.some.injEq] at hc; subst hc; rfl
 have rc:rng c:=⟨by omega,c2⟩
 have rc':rng c':=⟨by omega,c2'⟩
 obtain ⟨d,r,e,hd,_⟩:=zQL c1 c2
 obtain ⟨d',r',e',hd',_⟩:=zQL c1' c2'
 rw [zTo,zTo] at h
 simp only at h
 by_cases l0:l=[]
 ·rw [if_pos l0] at h
  by_cases l0':l'=[]
  ·rw [if_pos l0'] at h
   obtain ⟨q1,q2⟩:=zqc rc rc' (hu.noDig dg) (hv.noDig dg) h
   exact ⟨by rw [q1,l0,l0'],q2⟩
  ·rw [if_neg l0'] at h
   by_cases k':c'=1
   ·rw [if_pos k'] at h
    obtain ⟨d2,r2,e2,hd2⟩:=zzT l0' h2
    rw [e,e2] at h
    simp only [List.cons_append,List.cons.injEq] at h
    rw [h.1,hd2] at hd; cases hd
   ·rw [if_neg k',List.append_assoc] at h
    obtain ⟨q1,q2⟩:=zqc rc rc' (hu.noDig dg) (d42 _) h
    rw [q2] at hu
    exact (hu.cons_ne n42).elim
 ·rw [if_neg l0] at h
  by_cases k:c=1
  ·rw [if_pos k] at h
   obtain ⟨d2,r2,e2,hd2⟩:=zzT l0 h1
   by_cases l0':l'=[]
   ·rw [if_pos l0',e2,e'] at h
    simp only [List.cons_append,List.cons.injEq] at h
    rw [← h.1,hd2] at hd'; cases hd'
   ·rw [if_neg l0'] at h
    by_cases k':c'=1
    ·rw [if_pos k'] at h
     obtain ⟨q1,q2⟩:=zP8 hA l0 l0' h1 h2 hu hv h
     exact ⟨by rw [q1,k,k'],q2⟩
    ·rw [if_neg k',e2,e'] at h
     simp only [List.cons_append,List.cons.injEq] at h
     rw [← h.1,hd2] at hd'; cases hd'
  ·rw [if_neg k,List.append_assoc] at h
   by_cases l0':l'=[]
   ·rw [if_pos l0'] at h
    obtain ⟨q1,q2⟩:=zqc rc rc' (d42 _) (hv.noDig dg) h
    rw [← q2] at hv
    exact (hv.cons_ne n42).elim
   ·rw [if_neg l0'] at h
    by_cases k':c'=1
    ·rw [if_pos k'] at h
     obtain ⟨d2,r2,e2,hd2⟩:=zzT l0' h2
     rw [e,e2] at h
     simp only [List.cons_append,List.cons.injEq] at h
     rw [h.1,hd2] at hd; cases hd
    ·rw [if_neg k',List.append_assoc] at h
     obtain ⟨q1,q2⟩:=zqc rc rc' (d42 _) (d42 _) h
     simp only [List.cons_append,List.cons.injEq,true_and] at q2
     obtain ⟨q3,q4⟩:=zP8 hA l0 l0' h1 h2 hu hv q2
     exact ⟨by rw [q1,q3],q4⟩
theorem zWB {V:List Term→Bool} {t:Term} (ht:gT V t):∃ c r,txT t=c::r∧c≠48:=by
 obtain ⟨⟨c1,c2⟩,h1⟩:=ht
 obtain ⟨d,r,e,hd,h48⟩:=zQL c1 c2
 rw [zTo]
 by_cases l0:t.Factors=[]
 ·rw [if_pos l0]; exact ⟨d,r,e,h48⟩
 ·rw [if_neg l0]
  split
  ·obtain ⟨d2,r2,e2,hd2⟩:=zzT l0 h1
   exact ⟨d2,r2,e2,fun e=>by rw [e] at hd2; revert hd2; decide⟩
  ·exact ⟨d,_,by rw [e]; rfl,h48⟩
theorem zYP {V:List Term→Bool} (hA:RdA V) {a b:List Term} (ha:∀ t∈a,gT V t) (hb:∀ t∈b,gT V t) {u v:List UInt8} (hu:hd SN u) (hv:hd SN v) (h:txN a++u=txN b++v):a=b∧u=v:=by
 have en:∀ z:List Term,z≠[]→txN z=zd9 (z.map txT) [32,43,32]:=fun z hz=>by
  unfold txN zJm; rw [zI1,if_neg (by simpa using hz)]
 have e0:txN []=[48]:=by unfold txN zJm; rw [txTs,if_pos rfl]
 have h48:∀ z:List Term,z≠[]→(∀ t∈z,gT V t)→∃ c r,txN z=c::r∧c≠48:=fun z hz hg=>by
  rw [en z hz]
  cases z with
  | nil=>exact absurd rfl hz
  | cons t r=>
   obtain ⟨c,s,e,hc⟩:=zWB (hg t (by simp))
   cases r with
   | nil=>exact ⟨c,s,by simp only [List.map,zd9]; exact e,hc⟩
   | cons t' r=>exact ⟨c,_,by simp only [List.map,zd9]; rw [e]; rfl,hc⟩
 by_cases a0:a=[]
 ·by_cases b0:b=[]
  ·rw [a0,b0] at h
   exact ⟨by rw [a0,b0],List.append_cancel_left h⟩
  ·obtain ⟨c,r,e,hc⟩:=h48 b b0 hb
   rw [a0,e0,e] at h
   simp only [List.cons_append,List.cons.injEq] at h
   exact absurd h.1.symm hc
 ·by_cases b0:b=[]
  ·obtain ⟨c,r,e,hc⟩:=h48 a a0 ha
   rw [b0,e0,e] at h
   simp only [List.cons_append,List.cons.injEq] at h
   exact absurd h.1 hc
  ·rw [en a a0,en b b0] at h
   exact zFB txT SN 32 [43,32] (gT V) (by decide) (fun x y px py u v hu hv e=>zZf hA px py hu hv e) a b a0 b0 ha hb u v hu hv h
theorem zW7:∀ m,RdN (zbA m)∧RdA (zbA m):=by
 intro m
 induction m with
 | zero=>
  have:RdN (zbA 0):=fun a b ha=>by cases ha
  exact ⟨this,zVI this⟩
 | succ m ih=>
  have:RdN (zbA (m+1)):=fun a b ha hb wa wb u v hu hv h=>by
   have key:∀ z,zbA (m+1) z=true→zfs z→∀ t∈z,gT (zbA m) t:=fun z hz wz t ht=>by
    obtain ⟨⟨c1,c2⟩,hok⟩:=zqf hz ht
    have hwt:=zlQ (zqw (zoo wz t ht)).2.1
    exact ⟨⟨c1,by omega⟩,fun f hf=>⟨(zme hok hf).2,(zmX (hwt f hf)).1,zkv (zmX (hwt f hf)).2⟩⟩
   exact zYP ih.2 (key a ha wa) (key b hb wb) hu hv h
  exact ⟨this,zVI this⟩
theorem zX7 {m:Nat} {l l':List Factor} (h1:∀ f∈l,gF (zbA m) f) (h2:∀ f∈l',gF (zbA m) f) (h:txL l=txL l'):l=l':=by
 have e0:txL []=[]:=by unfold txL; rw [txFs]; rfl
 by_cases l0:l=[]
 ·by_cases l0':l'=[]
  ·rw [l0,l0']
  ·obtain ⟨c,r,e,_⟩:=zzT l0' h2
   rw [l0,e0,e] at h; cases h
 ·by_cases l0':l'=[]
  ·obtain ⟨c,r,e,_⟩:=zzT l0 h1
   rw [l0',e0,e] at h; cases h
  ·exact (zP8 (zW7 m).2 l0 l0' h1 h2 (u:=[]) (v:=[]) (fun c hc=>by cases hc) (fun c hc=>by cases hc) (by rw [h])).1
def ztL (a b:Int):Int:=if 1152921504606846976<a+b then 1152921504606846976 else a+b
def cT (x y:Term):Int:=cmpL (zbC x.Factors) (zbC y.Factors)
theorem zMP {x y:Term} (h:cT x y=0):x.Factors=y.Factors:=zBI _ _ (zDo _ _ h)
theorem zDq {x y:Term} (h:x.Factors=y.Factors):cT x y=0:=by unfold cT; rw [h]; exact zMB _
def putA (t:Term):List Term→List Term
 | []=>[t]
 | x::r=>if cT x t<0 then x::putA t r else if cT x t=0 then ⟨ztL x.Coeff t.Coeff,t.Factors⟩::r else t::x::r
def updA (t:Term):List Term→List Term
 | []=>[t]
 | x::r=>if x.Factors=t.Factors then ⟨ztL x.Coeff t.Coeff,x.Factors⟩::r else x::updA t r
abbrev Srs (l:List Term):Prop:=l.Pairwise fun x y=>cT x y<0
abbrev Dst (l:List Term):Prop:=l.Pairwise fun x y=>x.Factors≠y.Factors
theorem Srs.dst {l:List Term} (h:Srs l):Dst l:=h.imp fun {x y} hxy e=>by rw [zDq e] at hxy; omega
def SM (l:List Term) (t y:Term):Prop:=(y∈l∧y.Factors≠t.Factors)∨(y.Factors=t.Factors∧((∃ x∈l,x.Factors=t.Factors∧y.Coeff=ztL x.Coeff t.Coeff)∨((∀ x∈l,x.Factors≠t.Factors)∧y.Coeff=t.Coeff)))
theorem zUw {x y:Term} (h1:x.Coeff=y.Coeff) (h2:x.Factors=y.Factors):x=y:=by cases x; cases y; simp_all
theorem zDv {x y z:Term} (h1:cT x y<0) (h2:cT y z<0):cT x z<0:=zRH h1 h2
theorem zzH (x y:Term):cT y x= - cT x y:=zBi _ _
theorem zOG {x t y:Term} {r:List Term} (hx:x.Factors≠t.Factors) (hr:∀ z∈r,x.Factors≠z.Factors):SM (x::r) t y↔y=x∨SM r t y:=by
 unfold SM
 constructor
 ·rintro (⟨h1,h2⟩ | ⟨h1,⟨z,hz,h2,h3⟩ | ⟨h2,h3⟩⟩)
  ·rcases List.mem_cons.1 h1 with rfl | h1
   ·exact .inl rfl
   ·exact .inr (.inl ⟨h1,h2⟩)
  ·rcases List.mem_cons.1 hz with rfl | hz
   ·exact absurd h2 hx
   ·exact .inr (.inr ⟨h1,.inl ⟨z,hz,h2,h3⟩⟩)
  ·exact .inr (.inr ⟨h1,.inr ⟨fun z hz=>h2 z (by simp [hz]),h3⟩⟩)
 ·rintro (rfl | ⟨h1,h2⟩ | ⟨h1,⟨z,hz,h2,h3⟩ | ⟨h2,h3⟩⟩)
  ·exact .inl ⟨by simp,hx⟩
  ·exact .inl ⟨by simp [h1],h2⟩
  ·exact .inr ⟨h1,.inl ⟨z,by simp [hz],h2,h3⟩⟩
  ·exact .inr ⟨h1,.inr ⟨fun z hz=>by
    rcases List.mem_cons.1 hz with rfl | hz
    ·exact hx
    ·exact h2 z hz,h3⟩⟩
theorem zQF {t y:Term} {l:List Term} (h:∀ z∈l,z.Factors≠t.Factors):SM l t y↔y=t∨y∈l:=by
 unfold SM
 constructor
 ·rintro (⟨h1,h2⟩ | ⟨h1,⟨z,hz,h2,h3⟩ | ⟨h2,h3⟩⟩)
  ·exact .inr h1
  ·exact absurd h2 (h z hz)
  ·exact .inl (zUw h3 h1)
 ·rintro (rfl | h1)
  ·exact .inr ⟨rfl,.inr ⟨h,rfl⟩⟩
  ·exact .inl ⟨h1,h y h1⟩
theorem zWl {x t y:Term} {r:List Term} (hx:x.Factors=t.Factors) (hr:∀ z∈r,z.Factors≠t.Factors):SM (x::r) t y↔y=⟨ztL x.Coeff t.Coeff,t.Factors⟩∨y∈r:=by
 unfold SM
 constructor
 ·rintro (⟨h1,h2⟩ | ⟨h1,⟨z,hz,h2,h3⟩ | ⟨h2,h3⟩⟩)
  ·rcases List.mem_cons.1 h1 with rfl | h1
   ·exact absurd hx h2
   ·exact .inr h1
  ·rcases List.mem_cons.1 hz with rfl | hz
   ·exact .inl (zUw h3 h1)
   ·exact absurd h2 (hr z hz)
  ·exact absurd hx (h2 x (by simp))
 ·rintro (rfl | h1)
  ·exact .inr ⟨rfl,.inl ⟨x,by simp,hx,rfl⟩⟩
  ·exact .inl ⟨by simp [h1],hr y h1⟩
theorem zMV {t y:Term}:∀ {l:List Term},Srs l→(y∈putA t l↔SM l t y)
 | [],_=>by rw [zQF (by simp)]; simp [putA]
 | x::r,h=>by
  have hc:=List.pairwise_cons.1 h
  have hd:=List.pairwise_cons.1 h.dst
  unfold putA
  by_cases h1:cT x t<0
  ·rw [if_pos h1,List.mem_cons,zOG (fun e=>by rw [zDq e] at h1; omega) hd.1,zMV hc.2]
  ·rw [if_neg h1]
   by_cases h2:cT x t=0
   ·rw [if_pos h2,List.mem_cons,zWl (zMP h2) fun z hz e=>by
     have:=hc.1 z hz; rw [zDq ((zMP h2).trans e.symm)] at this; omega]
   ·rw [if_neg h2,zQF fun z hz e=>by
     have a:=zzH x t
     rcases List.mem_cons.1 hz with rfl | hz
     ·exact h2 (zDq e)
     ·have b:=zDv (show cT t x<0 by omega) (hc.1 z hz)
      rw [zDq e.symm] at b; omega]
    rw [List.mem_cons]
theorem zQq {t y:Term}:∀ {l:List Term},Dst l→(y∈updA t l↔SM l t y)
 | [],_=>by rw [zQF (by simp)]; simp [updA]
 | x::r,h=>by
  have hd:=List.pairwise_cons.1 h
  unfold updA
  by_cases h2:x.Factors=t.Factors
  ·rw [if_pos h2,List.mem_cons,zWl h2 fun z hz e=>hd.1 z hz (h2.trans e.symm),h2]
  ·rw [if_neg h2,List.mem_cons,zOG h2 hd.1,zQq hd.2]
theorem zzh {t:Term}:∀ {l:List Term},Srs l→Srs (putA t l)
 | [],_=>by simp [putA]
 | x::r,h=>by
  have hc:=List.pairwise_cons.1 h
  unfold putA
  by_cases h1:cT x t<0
  ·rw [if_pos h1]
   refine List.pairwise_cons.2 ⟨fun z hz=> ?_,zzh hc.2⟩
   rcases (zMV hc.2).1 hz with ⟨h2,_⟩ | ⟨h2,_⟩
   ·exact hc.1 z h2
   ·have:cT x z=cT x t:=by unfold cT; rw [h2]
    rw [this]; exact h1
  ·rw [if_neg h1]
   by_cases h2:cT x t=0
   ·rw [if_pos h2]
    refine List.pairwise_cons.2 ⟨fun z hz=> ?_,hc.2⟩
    have:=hc.1 z hz
    unfold cT at this ⊢
    rw [← zMP h2]; exact this
   ·rw [if_neg h2]
    have a:=zzH x t
    refine List.pairwise_cons.2 ⟨fun z hz=> ?_,h⟩
    rcases List.mem_cons.1 hz with rfl | hz
    ·omega
    ·exact zDv (show cT t x<0 by omega) (hc.1 z hz)
theorem zPX {t:Term}:∀ {l:List Term},Dst l→Dst (updA t l)
 | [],_=>by simp [updA]
 | x::r,h=>by
  have hc:=List.pairwise_cons.1 h
  unfold updA
  by_cases h2:x.Factors=t.Factors
  ·rw [if_pos h2]
   exact List.pairwise_cons.2 ⟨fun z hz=>hc.1 z hz,hc.2⟩
  ·rw [if_neg h2]
   refine List.pairwise_cons.2 ⟨fun z hz=> ?_,zPX hc.2⟩
   rcases (zQq hc.2).1 hz with ⟨h3,_⟩ | ⟨h3,_⟩
   ·exact hc.1 z h3
   ·rw [h3]; exact h2
theorem Dst.nodup {l:List Term} (h:Dst l):l.Nodup:=h.imp fun {x y} hxy e=>hxy (by rw [e])
theorem zYy {l l':List Term} (h:l.Perm l') (t y:Term):SM l t y↔SM l' t y:=by
 unfold SM
 simp only [h.mem_iff]
theorem zV6 {l l':List Term} (t:Term) (h:l.Perm l') (hs:Srs l) (hd:Dst l'):(putA t l).Perm (updA t l'):=
 (List.perm_ext_iff_of_nodup (zzh hs).dst.nodup (zPX hd).nodup).2 fun y=>by rw [zMV hs,zQq hd,zYy h]
def sumA (a b:List Term):List Term:=b.foldl (fun a t=>putA t a) a
def zGr (ts:List Term):List Term:=ts.foldl (fun a t=>updA t a) []
theorem zQA:∀ (b a:List Term),Srs a→Srs (sumA a b)
 | [],_,h=>h
 | t::r,a,h=>zQA r (putA t a) (zzh h)
theorem zRs:∀ (ts l l':List Term),l.Perm l'→Srs l→Dst l'→(sumA l ts).Perm (ts.foldl (fun a t=>updA t a) l')∧Dst (ts.foldl (fun a t=>updA t a) l')
 | [],l,l',h,_,hd=>⟨h,hd⟩
 | t::r,l,l',h,hs,hd=>zRs r (putA t l) (updA t l') (zV6 t h hs hd) (zzh hs) (zPX hd)
theorem zTf {t:Term}:∀ {l:List Term},(∀ x∈l,cT x t<0)→putA t l=l++[t]
 | [],_=>rfl
 | x::r,h=>by
  unfold putA
  rw [if_pos (h x (by simp)),zTf fun y hy=>h y (by simp [hy])]; rfl
theorem zUE:∀ (r l:List Term),Srs (l++r)→sumA l r=l++r
 | [],l,_=>by simp [sumA]
 | t::r,l,h=>by
  have e:sumA l (t::r)=sumA (putA t l) r:=rfl
  have hp:=List.pairwise_append.1 h
  rw [e,zTf fun x hx=>hp.2.2 x hx t (by simp),zUE r (l++[t]) (by simpa using h)]
  simp
theorem sum_nil {a:List Term} (h:Srs a):sumA [] a=a:=zUE a [] h
theorem zYN (a b:List Term) (h:Srs a):sumA [] (a++b)=sumA a b:=by
 show (a++b).foldl (fun a t=>putA t a) []=_
 rw [List.foldl_append]
 show sumA (sumA [] a) b=_
 rw [sum_nil h]
theorem zRh {a b:Int} (ha:1≤a) (hb:1≤b):1≤ztL a b∧ztL a b≤1152921504606846976:=by
 unfold ztL
 split
 ·omega
 ·omega
def cOK (t:Term):Prop:=1≤t.Coeff∧t.Coeff≤1152921504606846976
theorem zXG {t:Term} (ht:cOK t):∀ {l:List Term},(∀ x∈l,cOK x)→∀ x∈putA t l,cOK x
 | [],_,x,hx=>by simp only [putA,List.mem_singleton] at hx; subst hx; exact ht
 | y::r,h,x,hx=>by
  unfold putA at hx
  split at hx
  ·rcases List.mem_cons.1 hx with rfl | hx
   ·exact h _ (by simp)
   ·exact zXG ht (fun z hz=>h z (by simp [hz])) x hx
  ·split at hx
   ·rcases List.mem_cons.1 hx with rfl | hx
    ·exact zRh (h y (by simp)).1 ht.1
    ·exact h x (by simp [hx])
   ·rcases List.mem_cons.1 hx with rfl | hx
    ·exact ht
    ·exact h x hx
theorem zMT {t:Term}:∀ (l:List Term),(putA t l).length≤l.length+1
 | []=>by simp [putA]
 | x::r=>by
  have:=zMT (t:=t) r
  unfold putA
  split
  ·simp only [List.length_cons]; omega
  ·split <;>simp
theorem zDs:∀ (b a:List Term),(sumA a b).length≤a.length+b.length
 | [],a=>by simp [sumA]
 | t::r,a=>by
  have h1:=zDs r (putA t a)
  have h2:=zMT (t:=t) a
  show (sumA (putA t a) r).length≤_
  simp only [List.length_cons]; omega
def cF (x y:Factor):Int:=cmpT (zdI x.Atom) (zdI y.Atom)
theorem zT3 {x y:Factor} (h:cF x y=0):x.Atom=y.Atom:=zPI _ _ (ztE _ _ h)
theorem zX3 (x y:Factor):cF y x= - cF x y:=ziD _ _
theorem zRE {a b c:TT} (h1:cmpT a b<0) (h2:cmpT b c<0):cmpT a c<0:=by
 have h:=zxc a b c (by omega) (by omega)
 by_cases e:cmpT a c=0
 ·have e':=ztE a c e
  subst e'
  have:=ziD a b
  omega
 ·omega
theorem zze {x y z:Factor} (h1:cF x y<0) (h2:cF y z<0):cF x z<0:=zRE h1 h2
abbrev Srf (l:List Factor):Prop:=l.Pairwise fun x y=>cF x y<0
def facA (f:Factor):List Factor→List Factor
 | []=>[f]
 | x::r=>if cF x f<0 then x::facA f r else if cF x f=0 then (if f.Atom.Kind<3 then ⟨f.Atom,x.Exp+f.Exp⟩ else f)::r else f::x::r
def zbN:List Factor→List Factor→List Factor
 | [],b=>b
 | x::a,[]=>x::a
 | x::a,y::b=>if cF x y<0 then x::zbN a (y::b) else if 0<cF x y then y::zbN (x::a) b else (if x.Atom.Kind=3∨x.Atom.Kind=4 then x else ⟨x.Atom,x.Exp+y.Exp⟩)::zbN a b
termination_by a b=>a.length+b.length
theorem zGz (a:List Factor):zbN a []=a:=by cases a <;>rw [zbN]
theorem zE6 {m:Factor} {L b:List Factor} (h:∀ z∈b,cF m z<0):zbN (m::L) b=m::zbN L b:=by
 cases b with
 | nil=>rw [zGz,zGz]
 | cons z b=>rw [zbN,if_pos (h z (by simp))]
def eOK (f:Factor):Prop:=(0≤f.Atom.Kind∧f.Atom.Kind≤4)∧(f.Atom.Kind=3∨f.Atom.Kind=4→f.Exp=1)
theorem zSn {y:Factor} {b:List Factor} (hb:∀ z∈b,cF y z<0) (hy:eOK y):∀ {a:List Factor},(∀ x∈a,eOK x)→zbN (facA y a) b=zbN a (y::b)
 | [],_=>by
  rw [facA,zE6 hb,zbN,zbN]
 | x::a,ha=>by
  unfold facA
  by_cases h1:cF x y<0
  ·rw [if_pos h1,zE6 fun z hz=>zze h1 (hb z hz),zSn hb hy fun z hz=>ha z (by simp [hz]),zE6 (m:=x) (b:=y::b) fun z hz=>by
    rcases List.mem_cons.1 hz with rfl | hz
    ·exact h1
    ·exact zze h1 (hb z hz)]
  ·rw [if_neg h1]
   by_cases h2:cF x y=0
   ·have ea:=zT3 h2
    rw [if_pos h2,zE6 fun z hz=>by
     have e:(if y.Atom.Kind<3 then (⟨y.Atom,x.Exp+y.Exp⟩:Factor) else y).Atom=y.Atom:=by split <;>rfl
     have:=hb z hz
     unfold cF at this ⊢; rw [e]; exact this]
    rw [zbN,if_neg h1,if_neg (show ¬ 0<cF x y by omega)]
    congr 1
    have hx:=ha x (by simp)
    obtain ⟨xa,xe⟩:=x
    obtain ⟨ya,ye⟩:=y
    simp only at ea
    subst ea
    obtain ⟨⟨k0,k4⟩,h3⟩:=hx
    obtain ⟨_,h3'⟩:=hy
    simp only at k0 k4 h3 h3' ⊢
    by_cases hk:xa.Kind<3
    ·rw [if_pos hk,if_neg (by omega)]
    ·have hk':xa.Kind=3∨xa.Kind=4:=by omega
     rw [if_neg hk,if_pos hk',h3 hk',h3' hk']
   ·rw [if_neg h2,zE6 hb]
    rw [zbN,if_neg h1,if_pos (by omega)]
theorem zJz:∀ (b a:List Factor),Srf b→(∀ x∈a,eOK x)→(∀ x∈b,eOK x)→b.foldl (fun l f=>facA f l) a=zbN a b
 | [],a,_,_,_=>by rw [zGz]; rfl
 | y::b,a,hs,ha,hb=>by
  have hc:=List.pairwise_cons.1 hs
  have hy:=hb y (by simp)
  rw [List.foldl_cons,zJz b (facA y a) hc.2 (fun x hx=> ?_) fun x hx=>hb x (by simp [hx]),zSn hc.1 hy ha]
  -- kinds and exponents are kept
  clear hs hc hb
  induction a with
  | nil=>simp only [facA,List.mem_singleton] at hx; subst hx; exact hy
  | cons z r ih=>
   unfold facA at hx
   split at hx
   ·rcases List.mem_cons.1 hx with rfl | hx
    ·exact ha _ (by simp)
    ·exact ih (fun w hw=>ha w (by simp [hw])) hx
   ·split at hx
    ·rcases List.mem_cons.1 hx with rfl | hx
     ·split
      ·rename_i hk; exact ⟨hy.1,fun h=>by simp only at h; omega⟩
      ·exact hy
     ·exact ha x (by simp [hx])
    ·rcases List.mem_cons.1 hx with rfl | hx
     ·exact hy
     ·exact ha x hx
theorem zqA {x:Factor}:∀ {a b:List Factor},x∈zbN a b→∃ y,(y∈a∨y∈b)∧x.Atom=y.Atom
 | [],b,h=>⟨x,.inr (by rwa [zbN] at h),rfl⟩
 | y::a,[],h=>⟨x,.inl (by rwa [zbN] at h),rfl⟩
 | y::a,z::b,h=>by
  rw [zbN] at h
  split at h
  ·rcases List.mem_cons.1 h with rfl | h
   ·exact ⟨x,.inl (by simp),rfl⟩
   ·obtain ⟨w,hw,e⟩:=zqA h
    rcases hw with hw | hw
    ·exact ⟨w,.inl (by simp [hw]),e⟩
    ·exact ⟨w,.inr hw,e⟩
  ·split at h
   ·rcases List.mem_cons.1 h with rfl | h
    ·exact ⟨x,.inr (by simp),rfl⟩
    ·obtain ⟨w,hw,e⟩:=zqA h
     rcases hw with hw | hw
     ·exact ⟨w,.inl hw,e⟩
     ·exact ⟨w,.inr (by simp [hw]),e⟩
   ·rcases List.mem_cons.1 h with rfl | h
    ·exact ⟨y,.inl (by simp),by split <;>rfl⟩
    ·obtain ⟨w,hw,e⟩:=zqA h
     rcases hw with hw | hw
     ·exact ⟨w,.inl (by simp [hw]),e⟩
     ·exact ⟨w,.inr (by simp [hw]),e⟩
termination_by a b=>a.length+b.length
theorem zEJ:∀ (a b:List Factor),(zbN a b).length≤a.length+b.length
 | [],b=>by rw [zbN]; simp
 | y::a,[]=>by rw [zbN]; simp
 | y::a,z::b=>by
  rw [zbN]
  split
  ·have:=zEJ a (z::b); simp only [List.length_cons] at this ⊢; omega
  ·split
   ·have:=zEJ (y::a) b; simp only [List.length_cons] at this ⊢; omega
   ·have:=zEJ a b; simp only [List.length_cons] at this ⊢; omega
termination_by a b=>a.length+b.length
theorem zDC {x:Factor} {B:Int}:∀ {a b:List Factor},(∀ y∈a,1≤y.Exp∧y.Exp≤B)→(∀ y∈b,1≤y.Exp∧y.Exp≤B)→x∈zbN a b→1≤x.Exp∧x.Exp≤2*B
 | [],b,ha,hb,h=>by rw [zbN] at h; have:=hb x h; omega
 | y::a,[],ha,hb,h=>by rw [zbN] at h; have:=ha x h; omega
 | y::a,z::b,ha,hb,h=>by
  have hy:=ha y (by simp)
  have hz:=hb z (by simp)
  rw [zbN] at h
  split at h
  ·rcases List.mem_cons.1 h with rfl | h
   ·omega
   ·exact zDC (fun w hw=>ha w (by simp [hw])) hb h
  ·split at h
   ·rcases List.mem_cons.1 h with rfl | h
    ·omega
    ·exact zDC ha (fun w hw=>hb w (by simp [hw])) h
   ·rcases List.mem_cons.1 h with rfl | h
    ·split
     ·omega
     ·simp only; omega
    ·exact zDC (fun w hw=>ha w (by simp [hw])) (fun w hw=>hb w (by simp [hw])) h
termination_by a b=>a.length+b.length
def zw7 (a b:Int):Int:=if Int.tdiv 1152921504606846976 b<a then 1152921504606846976 else a*b
def zlt (x y:Term):Term:=⟨zw7 x.Coeff y.Coeff,zbN x.Factors y.Factors⟩
def zfg (a b:List Term):List Term:=a.flatMap fun x=>b.map (zlt x)
def zIQ (a b:List Term):List Term:=sumA [] (zfg a b)
theorem zPs {a b:Int} (ha:1≤a∧a≤1152921504606846976) (hb:1≤b∧b≤1152921504606846976):(1≤zw7 a b∧zw7 a b≤1152921504606846976)∧(¬ Int.tdiv 1152921504606846976 b<a→a*b≤1152921504606846976):=by
 have h1:¬ Int.tdiv 1152921504606846976 b<a→a*b≤1152921504606846976:=fun h=>by
  rw [Int.tdiv_eq_ediv_of_nonneg (by omega)] at h
  have h2:a≤1152921504606846976 / b:=by omega
  exact (Int.le_ediv_iff_mul_le (by omega)).1 h2
 refine ⟨?_,h1⟩
 unfold zw7
 split
 ·omega
 ·rename_i h
  refine ⟨?_,h1 h⟩
  have:=Int.mul_le_mul ha.1 hb.1 (by omega) (by omega)
  omega
theorem zWs {t:Term} {a b:List Term} (h:t∈zfg a b):∃ x∈a,∃ y∈b,t=zlt x y:=by
 obtain ⟨x,hx,ht⟩:=List.mem_flatMap.1 h
 obtain ⟨y,hy,rfl⟩:=List.mem_map.1 ht
 exact ⟨x,hx,y,hy,rfl⟩
theorem zMh (a b:List Term):(zfg a b).length=a.length*b.length:=by
 unfold zfg
 induction a with
 | nil=>simp
 | cons x r ih=>rw [List.flatMap_cons,List.length_append,ih,List.length_map,List.length_cons,Nat.add_mul]; omega
section
variable (g:List Term→Bool×List Term)
theorem zZI (l:List (List Term)) (hl:l.length≤1000000) (hg:∀ a∈l,g a=(true,a)) (n:Nat) (hn:l.length<n) (x0 x1 x2 x3:Int) (x4:List Weighted) (x5 x6 x7:Int) (x8:ByteArray) (t0 t1 t2 t3 t4 t5 t6:Int) (t7:ByteArray):
  zq5 g n l.length 0 x0 x1 x2 x3 x4 x5 x6 x7 x8 t0 t1 t2 t3 t4 t5 t6 t7 l=(true,(x0,x1,x2,x3,x4,x5,x6,x7,x8,t0,t1,t2,t3,t4,t5,t6,t7,l)):=by
 have:=zdt (W:=zir g) (z:=default) l.length (fun i=>((),(),(l.length:Int),(i:Int),())) (fun _=>((x0,x1,x2,(),x3,x4,x5,x6,x7,x8,()),(t0,t1,t2,(),t3,(),t4,t5,t6,t7,()),l,())) (fun _=>true) default (x0,x1,x2,x3,x4,x5,x6,x7,x8,t0,t1,t2,t3,t4,t5,t6,t7,l)
  (fun i hi H K D=>by
   show (zfq g l.length i x0 x1 x2 x3 x4 x5 x6 x7 x8 t0 t1 t2 t3 t4 t5 t6 t7 l).ev H K D=_
   unfold zfq
   simp only [Wy.ev_i,Wy.ev_k,Wy.ev_h,Wy.ev_bn,Wy.ev_d,tT,hi,hg _ (zx hi)]
   rw [zT (by omega),zOe hi])
  (fun H K D=>by
   show (zfq g l.length l.length x0 x1 x2 x3 x4 x5 x6 x7 x8 t0 t1 t2 t3 t4 t5 t6 t7 l).ev H K D=_
   unfold zfq
   simp only [Wy.ev_i,Wy.ev_k,tT,Nat.lt_irrefl]) n hn
 rw [show allN (fun _=>true) l.length 0=true from zea.2 fun _ _ _=>rfl] at this
 exact this
theorem zZP (l:List Weighted) (hl:l.length≤1000000) (hg:∀ a∈l,g a.Ann=(true,a.Ann)) (n:Nat) (hn:l.length<n) (x0 x1 x2 x3 x4 x5 x6:Int) (x7:ByteArray) (t0 t1 t2 t3 t4 t5 t6:Int) (t7:ByteArray) (b2:List (List Term)):
  zrd g n l.length 0 x0 x1 x2 x3 x4 x5 x6 x7 t0 t1 t2 t3 t4 t5 t6 t7 b2 l=(true,(x0,x1,x2,x3,x4,x5,x6,x7,t0,t1,t2,t3,t4,t5,t6,t7,b2,l)):=by
 have:=zdt (W:=ziv g) (z:=default) l.length (fun i=>((),(),(l.length:Int),(i:Int),())) (fun _=>((x0,x1,x2,(),x3,(),x4,x5,x6,x7,()),(t0,t1,t2,(),t3,(),t4,t5,t6,t7,()),b2,l,())) (fun _=>true) default (x0,x1,x2,x3,x4,x5,x6,x7,t0,t1,t2,t3,t4,t5,t6,t7,b2,l)
  (fun i hi H K D=>by
   show (zfl g l.length i x0 x1 x2 x3 x4 x5 x6 x7 t0 t1 t2 t3 t4 t5 t6 t7 b2 l).ev H K D=_
   unfold zfl
   simp only [Wy.ev_i,Wy.ev_k,Wy.ev_h,Wy.ev_bn,Wy.ev_d,tT,hi,hg _ (zx hi)]
   have:l.set i (⟨(l.getD i default).Value,(l.getD i default).Ann⟩:Weighted)=l:=zOe hi
   rw [zT (by omega),this])
  (fun H K D=>by
   show (zfl g l.length l.length x0 x1 x2 x3 x4 x5 x6 x7 t0 t1 t2 t3 t4 t5 t6 t7 b2 l).ev H K D=_
   unfold zfl
   simp only [Wy.ev_i,Wy.ev_k,tT,Nat.lt_irrefl]) n hn
 rw [show allN (fun _=>true) l.length 0=true from zea.2 fun _ _ _=>rfl] at this
 exact this
theorem zO0 (x:Atom) (h1:x.Args.length≤1000000) (h2:x.Items.length≤1000000) (hg:∀ a∈x.Args,g a=(true,a)) (hgi:∀ w∈x.Items,g w.Ann=(true,w.Ann)):zhH g x=(true,x):=by
 have hreach:zQ=70368744177664:=rfl
 unfold zhH zmp zdb zdU
 have e1:∀ k:Nat,k≤1000→decide (x.Args.length*k≤zQ)=true:=fun k hk=>by
  have:=Nat.mul_le_mul h1 hk
  simp only [decide_eq_true_eq]; omega
 have e2:∀ k:Nat,k≤1000→decide (x.Items.length*k≤zQ)=true:=fun k hk=>by
  have:=Nat.mul_le_mul h2 hk
  simp only [decide_eq_true_eq]; omega
 simp only [Wy.fin_bn,Wy.fin_k,e1 _ (by omega:24≤1000),e2 _ (by omega:56≤1000),Int.ofNat_eq_natCast,cond_true]
 rw [zZI g _ h1 hg _ (by omega)]
 simp only [cond_true,e2 _ (by omega:56≤1000)]
 rw [zZP g _ h2 hgi _ (by omega)]
 simp only [cond_true]
 cases x; rfl
theorem zTN (gx:Atom→Bool×Atom) (a:List Term) (hl:a.length≤1000000) (hg:∀ t∈a,t.Factors.length≤1000000∧∀ f∈t.Factors,gx f.Atom=(true,f.Atom)):zkm gx a=(true,a):=by
 unfold zkm zpl
 have:=cp_3 gx a hl hg (a.length+(Int.ofNat a.length).toNat +Int.toNat (0:Int)+(0:Nat)+(1:Nat)) (by omega)
 rw [show Int.ofNat a.length=(a.length:Int) from rfl] at *
 rw [Wy.fin_bn,this]; rfl
end
theorem zOI:∀ n,
  (∀ d a,zq d a→2*d≤n→zki n a=(true,a))∧
  (∀ d x,zcJ (zq d) x→2*d+1≤n→zj8 n x=(true,x))
 | 0=>by
  refine ⟨fun d a h hd=> ?_,fun d x h hd=>by omega⟩
  have:d=0:=by omega
  subst this; exact h.elim
 | n+1=>by
  obtain ⟨h1,h2⟩:=zOI n
  refine ⟨fun d a h hd=> ?_,fun d x h hd=> ?_⟩
  ·cases d with
   | zero=>exact h.elim
   | succ d=>
    rw [zG3]
    exact zTN _ a h.1 fun t ht=>⟨(h.2 t ht).1,fun f hf=>h2 d _ ((h.2 t ht).2 f hf) (by omega)⟩
  ·rw [zB9]
   exact zO0 _ x h.1.1 h.1.2.1 (fun a ha=>h1 d a (h.2.1 a ha) (by omega)) fun w hw=>h1 d _ (h.2.2 w hw).2 (by omega)
theorem zA6 {d:Nat} {a:List Term} (h:zq d a) (hd:d≤100):zfG a=(true,a):=(zOI 1000).1 d a h (by omega)
def fitR (a:List Term):List Term×Int:=bif zmy a then (a,0) else ([],6)
theorem ztP {d:Nat} {a:List Term} (h:zq d a) (hd:d≤100) (hs:zP a≤4611686018427387904):zdH a=(true,fitR a):=by
 unfold zdH zqG fitR
 simp only [Wy.fin_bn,Wy.fin_i,Wy.fin_k,zRm h hd hs,zA6 h hd,cond_true]
 cases zmy a <;>rfl
theorem zIi {d:Nat} {a:List Term} (h:zq d a) (hd:d≤100) (hs:zP a≤4611686018427387904):zkT a=(true,fitR a):=by
 unfold zkT zGH fitR
 simp only [Wy.fin_bn,Wy.fin_i,Wy.fin_k,zUz h hd hs,cond_true]
 cases zmy a <;>rfl
def oneA (x:Atom):List Term:=[⟨1,[⟨x,1⟩]⟩]
theorem zAo (x:Atom):(zex x).2=oneA x:=by
 unfold zex zrv
 rw [Atom.eta]; rfl
theorem zHu (x:Atom):(zkE x).2=oneA x:=by
 unfold zkE zEx
 rw [Atom.eta]; rfl
theorem zLw {d:Nat} {x:Atom} (h:zcJ (zq d) x):zq (d+1) (oneA x):=by
 refine ⟨by simp [oneA],fun t ht=> ?_⟩
 simp only [oneA,List.mem_singleton] at ht
 subst ht
 refine ⟨by simp,fun f hf=> ?_⟩
 simp only [List.mem_singleton] at hf
 subst hf; exact h
theorem zOw (x:Atom):zP (oneA x)=2+zeJ x:=by
 rw [oneA,zi9,zxL,zeO,zpN]
 simp only [List.length_singleton]; omega
section
variable {α β ρ τ:Type} [Inhabited τ]
theorem zMY (p:τ→Bool):∀ l:List τ,l.take (l.takeWhile p).length=l.takeWhile p
 | []=>rfl
 | x::r=>by
  rw [List.takeWhile_cons]
  cases p x with
  | true=>simp [zMY p r]
  | false=>simp
theorem zMH (p:τ→Bool):∀ l:List τ,l.drop (l.takeWhile p).length=l.dropWhile p
 | []=>rfl
 | x::r=>by
  rw [List.takeWhile_cons,List.dropWhile_cons]
  cases p x with
  | true=>simp [zMH p r]
  | false=>simp
theorem zZu (p:τ→Bool) (l:List τ):(l.takeWhile p).length≤l.length:=(List.takeWhile_prefix p).length_le
theorem zRo {W:α→β→Wy α β ρ} {z:ρ} (l:List τ) (p:τ→Bool) (ex:Nat→α) (ey:Nat→β) (res:Nat→ρ)
  (h:∀ i,i<l.length→∀ (H:α→β→Bool×ρ) K D,(W (ex i) (ey i)).ev H K D=bif p (l.getD i default) then H (ex (i+1)) (ey (i+1)) else K (res i))
  (he:∀ (H:α→β→Bool×ρ) K D,(W (ex l.length) (ey l.length)).ev H K D=K (res l.length)):
  ∀ n i,l.length<i+n→i≤l.length→zX W z n (ex i) (ey i)=(true,res (i+((l.drop i).takeWhile p).length))
 | 0,i,h1,h2=>by omega
 | n+1,i,h1,h2=>by
  show (W (ex i) (ey i)).ev (zX W z n) (fun r=>(true,r)) (false,z)=_
  by_cases hi:i<l.length
  ·rw [h i hi,zbu hi,List.takeWhile_cons]
   cases hp:p (l.getD i default) with
   | false=>simp
   | true=>
    rw [cond_true,zRo l p ex ey res h he n (i+1) (by omega) (by omega)]
    simp only [if_true,List.length_cons]
    congr 2; omega
  ·have:i=l.length:=by omega
   subst this
   rw [he,zcE hi]; rfl
theorem zJh {W:α→β→Wy α β ρ} {z:ρ} (l:List τ) (p:τ→Bool) (ex:Nat→α) (ey:Nat→β) (res:Nat→ρ)
  (h:∀ i,i<l.length→∀ (H:α→β→Bool×ρ) K D,(W (ex i) (ey i)).ev H K D=bif p (l.getD i default) then H (ex (i+1)) (ey (i+1)) else K (res i))
  (he:∀ (H:α→β→Bool×ρ) K D,(W (ex l.length) (ey l.length)).ev H K D=K (res l.length)) (n:Nat) (hn:l.length<n):
  zX W z n (ex 0) (ey 0)=(true,res (l.takeWhile p).length):=by
 have:=zRo (z:=z) l p ex ey res h he n 0 (by omega) (by omega)
 simpa using this
def rins (p:τ→Bool) (x:τ) (l:List τ):List τ:=l.takeWhile p++x::l.dropWhile p
theorem zQ7 (p:τ→Bool) (x y:τ) (r:List τ):rins p x (y::r)=bif p y then y::rins p x r else x::y::r:=by
 unfold rins
 rw [List.takeWhile_cons,List.dropWhile_cons]
 cases p y <;>simp
theorem zAy (p:τ→Bool) (x:τ):∀ l:List τ,(rins p x l).Perm (x::l)
 | []=>.refl _
 | y::r=>by
  rw [zQ7]
  cases p y
  ·exact .refl _
  ·exact ((zAy p x r).cons y).trans (.swap x y r)
abbrev Srt (key:τ→TT) (l:List τ):Prop:=l.Pairwise fun x y=>cmpT (key x) (key y)≤0
theorem zS1 (key:τ→TT) (x:τ):∀ l:List τ,Srt key l→Srt key (rins (fun y=>decide (cmpT (key y) (key x)≤0)) x l)
 | [],_=>by simp [rins]
 | y::r,h=>by
  have h:=List.pairwise_cons.1 h
  rw [zQ7]
  by_cases hp:cmpT (key y) (key x)≤0
  ·rw [decide_eq_true hp]
   refine List.pairwise_cons.2 ⟨fun z hz=> ?_,zS1 key x r h.2⟩
   rcases List.mem_cons.1 ((zAy _ x r).mem_iff.1 hz) with rfl | hz
   ·exact hp
   ·exact h.1 z hz
  ·rw [decide_eq_false hp]
   have hxy:cmpT (key x) (key y)≤0:=by have:=ziD (key x) (key y); omega
   refine List.pairwise_cons.2 ⟨fun z hz=> ?_,List.pairwise_cons.2 h⟩
   rcases List.mem_cons.1 hz with rfl | hz
   ·exact hxy
   ·exact zxc _ _ _ hxy (h.1 z hz)
end
theorem zQs {τ:Type} (l:List τ) (k:Nat):List.take (k - Int.toNat 0) (List.drop (Int.toNat 0) l)=l.take k:=by simp
theorem zww {τ:Type} (l:List τ) (k:Nat):List.take ((Int.ofNat l.length).toNat - k) (List.drop k l)=l.drop k:=by
 simp only [Int.ofNat_eq_natCast,Int.toNat_natCast]
 rw [List.take_of_length_le (by simp)]
theorem zS3 (n:Nat):(n==0)= !decide (0<n):=by cases n <;>simp
def hasA (w:Weighted):Bool:=decide (0<w.Ann.length)
def zeD (l:List Weighted):List Weighted:=zmd zbc (l.filter hasA)
theorem zMu {d:Nat} {l:List Weighted} (hl:l.length≤1000000) (h:∀ w∈l,zq d w.Ann) (hd:d≤99):SortOK zbc l:=by
 have e:∀ x∈l,∀ y,zbc x y=(true,cmpT (zbh x) (zbh y)):=fun x hx y=>zlN (h x hx) hd y
 refine ⟨by omega,fun x hx y _=>by rw [e x hx],fun x hx=> ?_,fun x hx y hy z hz h1 h2=> ?_,fun x hx y hy z hz h1 h2=> ?_,fun x hx y hy h1 h2=> ?_⟩
 ·rw [e x hx,zLv]; omega
 ·rw [e x hx] at h1 ⊢; rw [e y hy] at h2
  have h3:=zxc _ _ _ (show cmpT (zbh x) (zbh y)≤0 by simp only at h1; omega) (show cmpT (zbh y) (zbh z)≤0 by simp only at h2; omega)
  simp only at h1 h2 ⊢
  by_cases e0:cmpT (zbh x) (zbh z)=0
  ·have:=ztE _ _ e0
   rw [← this,ziD (zbh x) (zbh y)] at h2
   omega
  ·omega
 ·rw [e x hx] at h1 ⊢; rw [e y hy] at h2
  simp only at h1 h2 ⊢
  have a1:=ziD (zbh x) (zbh y)
  have a2:=ziD (zbh y) (zbh z)
  have a3:=ziD (zbh x) (zbh z)
  have:=zxc (zbh z) (zbh y) (zbh x) (by omega) (by omega)
  omega
 ·rw [e x hx] at h1; rw [e y hy] at h2
  simp only at h1 h2
  have a1:=ziD (zbh x) (zbh y)
  exact zPJ _ _ (ztE _ _ (by omega))
theorem zYd {d:Nat} (l:List Weighted) (hl:l.length≤1000000) (h:∀ w∈l,zq d w.Ann) (hd:d≤99) (n:Nat) (hn:l.length<n):zyH n l l.length 0 []=(true,l.filter hasA):=by
 have hreach:zQ=70368744177664:=rfl
 have hfl:∀ i,(List.filter hasA (l.take i)).length≤1000000:=fun i=>Nat.le_trans (List.length_filter_le _ _) (Nat.le_trans (by simp; omega) hl)
 have:=zdt (W:=znr) (z:=default) l.length (fun i=>((),l,(l.length:Int),(i:Int),())) (fun i=>((l.take i).filter hasA,())) (fun _=>true) default (l.filter hasA)
  (fun i hi H K D=>by
   show (zkg l l.length i ((l.take i).filter hasA)).ev H K D=_
   unfold zkg
   have hb2:decide (((List.filter hasA (l.take i)).length+1)*56≤zQ)=true:=by have:=hfl i; simp only [decide_eq_true_eq]; omega
   have hgt:decide (((l.getD i default).Ann.length:Int)>0)=hasA (l.getD i default):=zne _ 0
   simp only [Wy.ev_i,Wy.ev_k,Wy.ev_h,Wy.ev_bn,Wy.ev_d,tT,hi,zA6 (h _ (zx hi)) (by omega:d≤100),hgt,List.length_singleton,hb2]
   rw [zT (by omega),ziM hi,List.filter_append,List.filter_cons]
   cases hasA (l.getD i default) with
   | true=>simp
   | false=>simp)
  (fun H K D=>by
   show (zkg l l.length l.length ((l.take l.length).filter hasA)).ev H K D=_
   unfold zkg
   simp only [Wy.ev_i,Wy.ev_k,tT,Nat.lt_irrefl,List.take_length]) n hn
 rw [show allN (fun _=>true) l.length 0=true from zea.2 fun _ _ _=>rfl] at this
 exact this
theorem zXg {d:Nat} (l:List Weighted) (hl:l.length≤1000000) (h:∀ w∈l,zq d w.Ann) (hd:d≤99) (h20:(l.filter hasA).length<20):znm l=(true,zeD l):=by
 unfold znm zsX zbi zeD
 have:=zYd l hl h hd (l.length+(Int.ofNat l.length).toNat +Int.toNat (0:Int)+(0:Nat)+(1:Nat)) (by omega)
 rw [show Int.ofNat l.length=(l.length:Int) from rfl] at *
 have ok:SortOK zbc (l.filter hasA):=zMu (d:=d) (by omega) (fun w hw=>h w (List.mem_filter.1 hw).1) hd
 rw [Wy.fin_bn,this]
 simp only [Wy.fin_bn,Wy.fin_k,cond_true,decide_eq_true ok,decide_eq_true h20,Bool.and_self]
def zr8 (w:Weighted) (out:List Weighted):List Weighted:=bif hasA w then rins (fun y=>decide (cmpT (zbh y) (zbh w)≤0)) w out else out
theorem zWR {d:Nat} (l:List Weighted) (i:Nat) (hi:i<l.length) (hl:l.length≤1000000) (out:List Weighted) (ho:out.length≤1000000) (h:∀ w∈out,zq d w.Ann) (hd:d≤99) (n:Nat) (hn:out.length<n):
  zH7 n l i 0 out=(true,(l,(i:Int),(((out.takeWhile fun y=>decide (cmpT (zbh y) (zbh (l.getD i default))≤0)).length:Nat):Int),out)):=by
 exact zJh (W:=ztJ) (z:=default) out (fun y=>decide (cmpT (zbh y) (zbh (l.getD i default))≤0)) (fun k=>(l,(),(i:Int),(k:Int),())) (fun _=>(out,())) (fun k=>(l,(i:Int),(k:Int),out))
  (fun k hk H K D=>by
   show (zpm l i k out).ev H K D=_
   unfold zpm
   have e1:(decide ((k:Int)≤((k+1:Nat):Int))&&decide (((k+1:Nat):Int)≤Int.ofNat out.length))=true:=by simp; try omega
   have e2:(decide ((i:Int)≤((i+1:Nat):Int))&&decide (((i+1:Nat):Int)≤Int.ofNat l.length))=true:=by simp; try omega
   have e3:decide ((k:Int)<Int.ofNat out.length)=true:=by simp [hk]
   simp only [Wy.ev_i,Wy.ev_k,Wy.ev_h,Wy.ev_bn,Wy.ev_d,zT (show k<4611686018427387904 by omega),zT (show i<4611686018427387904 by omega),e1,e2,e3,zem,Bool.true_and,cond_true,Int.toNat_natCast,show k+1 - k=1 by omega,show i+1 - i=1 by omega,zR1 _ _ hi,zR1 _ _ hk]
   rw [zwu (d:=d) (by simp) (fun w hw=>by
    rw [List.mem_singleton] at hw; subst hw; exact h _ (zx hk)) hd,zkG,zkG]
   simp only [List.map,zXA,cond_true])
  (fun H K D=>by
   show (zpm l i out.length out).ev H K D=_
   unfold zpm
   have e3:decide ((out.length:Int)<Int.ofNat out.length)=false:=by simp
   simp only [Wy.ev_i,Wy.ev_k,e3,cond_false]) n hn
theorem zWx (w:Weighted) (out:List Weighted):(zr8 w out).length≤out.length+1:=by
 unfold zr8
 cases hasA w with
 | false=>simp
 | true=>simp only [cond_true]; rw [(zAy _ w out).length_eq]; simp
theorem zVK {w y:Weighted} {out:List Weighted} (h:y∈zr8 w out):y=w∨y∈out:=by
 unfold zr8 at h
 cases hb:hasA w with
 | false=>rw [hb] at h; exact .inr h
 | true=>rw [hb] at h; exact List.mem_cons.1 ((zAy _ w out).mem_iff.1 h)
theorem zW1 {d:Nat} (l:List Weighted) (hl:l.length≤1000000) (h:∀ w∈l,zq d w.Ann) (hd:d≤99) (n:Nat) (hn:l.length<n):zH4 n l 0 []=(true,l.foldl (fun out w=>zr8 w out) []):=by
 have hreach:zQ=70368744177664:=rfl
 have:=zcx (W:=ztB) (z:=default) (l:=l) (fun i (out:List Weighted)=>(l,(),(i:Int),())) (fun _ out=>(out,())) (fun w out=>.inl (zr8 w out)) (fun out=>out) (fun i out=>out.length≤i∧∀ w∈out,zq d w.Ann)
  (fun i out hi hI=>.inl ⟨_,rfl,⟨by have:=zWx (l.getD i default) out; omega,fun w hw=>by
    rcases zVK hw with rfl | hw
    ·exact h _ (zx hi)
    ·exact hI.2 w hw⟩,fun H K D=>by
   show (zo8 l i out).ev H K D=_
   unfold zo8
   have e0:((l.getD i default).Ann.length==0)= !hasA (l.getD i default):=zS3 _
   have e3:decide ((i:Int)<Int.ofNat l.length)=true:=by simp [hi]
   simp only [Wy.ev_i,Wy.ev_k,Wy.ev_h,Wy.ev_bn,Wy.ev_d,e3,zem,Bool.and_self,cond_true,Int.toNat_natCast,show (Int.ofNat (l.getD i default).Ann.length==(0:Int))=((l.getD i default).Ann.length==0) from zqz _ 0,e0]
   rw [zWR l i hi hl out (by omega) hI.2 hd _ (by omega)]
   simp only [cond_true,zQs,zww,List.nil_append,Int.toNat_natCast,e3,zem,Bool.and_self,Int.le_refl,decide_true,Bool.true_and,Bool.and_true]
   have q1:=zZu (fun y=>decide (cmpT (zbh y) (zbh (l.getD i default))≤0)) out
   have q2:decide (((out.takeWhile fun y=>decide (cmpT (zbh y) (zbh (l.getD i default))≤0)).length:Int)≤Int.ofNat out.length)=true:=by simp only [decide_eq_true_eq,Int.ofNat_eq_natCast]; omega
   have hb1:decide ((0+(out.take (out.takeWhile fun y=>decide (cmpT (zbh y) (zbh (l.getD i default))≤0)).length).length)*56≤zQ)=true:=by simp only [decide_eq_true_eq,List.length_take]; omega
   have hb2:decide (((out.take (out.takeWhile fun y=>decide (cmpT (zbh y) (zbh (l.getD i default))≤0)).length).length+[l.getD i default].length)*56≤zQ)=true:=by simp only [decide_eq_true_eq,List.length_take,List.length_singleton]; omega
   have hb3:decide (((out.take (out.takeWhile fun y=>decide (cmpT (zbh y) (zbh (l.getD i default))≤0)).length++[l.getD i default]).length+(out.drop (out.takeWhile fun y=>decide (cmpT (zbh y) (zbh (l.getD i default))≤0)).length).length)*56≤zQ)=true:=by simp only [decide_eq_true_eq,List.length_append,List.length_take,List.length_singleton,List.length_drop]; omega
   simp only [q2,hb1,hb2,hb3,cond_true]
   rw [zT (by omega),zMY,zMH]
   unfold zr8 rins
   cases hasA (l.getD i default) <;>simp⟩)
  (fun out hI H K D=>by
   show (zo8 l l.length out).ev H K D=_
   unfold zo8
   have e3:decide ((l.length:Int)<Int.ofNat l.length)=false:=by simp
   simp only [Wy.ev_i,Wy.ev_k,e3,cond_false]) n 0 [] (by omega) (by omega) ⟨by simp,fun w hw=>by cases hw⟩
 rw [List.drop_zero,zcw] at this
 exact this
theorem zPj:∀ (l out:List Weighted),(l.foldl (fun out w=>zr8 w out) out).Perm (l.filter hasA++out)∧(Srt zbh out→Srt zbh (l.foldl (fun out w=>zr8 w out) out))
 | [],out=>⟨.refl _,fun h=>h⟩
 | w::r,out=>by
  obtain ⟨h1,h2⟩:=zPj r (zr8 w out)
  rw [List.foldl_cons,List.filter_cons]
  cases hb:hasA w with
  | false=>
   have e:zr8 w out=out:=by unfold zr8; rw [hb]; rfl
   rw [e] at h1 h2 ⊢
   exact ⟨by simpa using h1,h2⟩
  | true=>
   have e:zr8 w out=rins (fun y=>decide (cmpT (zbh y) (zbh w)≤0)) w out:=by unfold zr8; rw [hb]; rfl
   rw [e] at h1 h2 ⊢
   refine ⟨?_,fun h=>h2 (zS1 zbh w out h)⟩
   simp only [if_true,List.cons_append]
   exact h1.trans (((zAy _ w out).append_left _).trans List.perm_middle)
theorem zWf {d:Nat} (l:List Weighted) (hl:l.length≤1000000) (h:∀ w∈l,zq d w.Ann) (hd:d≤99):zvw l=(true,zeD l):=by
 unfold zvw zBT
 rw [Wy.fin_bn,zW1 l hl h hd _ (by omega)]
 simp only [cond_true,Wy.fin_k]
 congr 1
 obtain ⟨h1,h2⟩:=zPj l []
 rw [List.append_nil] at h1
 have hm:∀ w∈l.filter hasA,zq d w.Ann:=fun w hw=>h w (List.mem_filter.1 hw).1
 refine (zMu (d:=d) (Nat.le_trans (List.length_filter_le _ _) hl) hm hd).unique h1 ?_
 refine (h2 .nil).imp_of_mem fun {x y} hx hy hxy=> ?_
 rw [zlN (hm y (h1.mem_iff.1 hy)) hd,ziD (zbh x) (zbh y)]
 simp only; omega
def mats (op sign:Int):Bool:=bif op==5 then sign==0 else bif op==6 then sign != 0 else bif op==7 then decide (sign<0) else bif op==8 then decide (sign≤0) else bif op==9 then decide (sign>0) else decide (sign≥0)
theorem zWH (op sign:Int):znc op sign=(true,mats op sign):=by
 unfold znc zsv mats
 simp only [Wy.fin_i,Wy.fin_k]
 cases op==5 <;>cases op==6 <;>cases op==7 <;>cases op==8 <;>cases op==9 <;>rfl
theorem zVB {op sign:Int} (h1:5≤op) (h2:op≤10):zrj op sign=(true,mats op sign):=by
 unfold zrj zw0 mats
 simp only [Wy.fin_i,Wy.fin_k,beqd]
 by_cases a1:op=5
 ·simp [a1]
 by_cases a2:op=6
 ·simp [a2]
 by_cases a3:op=7
 ·simp [a3]
 by_cases a4:op=8
 ·simp [a4]
 by_cases a5:op=9
 ·simp [a5]
 have a6:op=10:=by omega
 simp [a6]
def tstA (fn:Int) (l:List Weighted) (op:Int) (b:Value):Atom:=⟨4,⟨0,0⟩,[],fn,l,op,b⟩
def zzX (fn:Int) (items:List Weighted) (op:Int) (b:Value):List Term×Int:=
 bif !(fitK fn items op b&&items.all fun w=>zbB w.Ann) then ([],1) else
 bif decide (0<(zeD items).length) then fitR (oneA (tstA fn (zeD items) op b)) else
 bif fn==0&&mats op (cmpI 0 b.Int) then ([⟨1,[]⟩],0) else ([],0)
theorem zJb {l:List Weighted} {w:Weighted} (h:w∈zeD l):w∈l∧w.Ann≠[]:=by
 have:=(zor _ _).mem_iff.1 h
 obtain ⟨h1,h2⟩:=List.mem_filter.1 this
 refine ⟨h1,fun e=> ?_⟩
 rw [hasA,e] at h2; simp at h2
theorem zPR (l:List Weighted):(zeD l).length=(l.filter hasA).length:=(zor _ _).length_eq
theorem zLm {B:Nat}:∀ l:List Weighted,(∀ w∈l,zP w.Ann≤B)→zcI l≤l.length*(B+1)
 | [],_=>by rw [zeF]; simp
 | w::r,h=>by
  rw [zg7,List.length_cons]
  have h1:=h w (by simp)
  have h2:=zLm r fun w hw=>h w (by simp [hw])
  rw [Nat.add_mul]; omega
theorem zDV {fn:Int} {l:List Weighted} {op:Int} {b:Value} (hl:l.length≤1000000) (hf:fitK fn l op b=true) (hv:(l.all fun w=>zbB w.Ann)=true):zq 10 (oneA (tstA fn (zeD l) op b))∧zP (oneA (tstA fn (zeD l) op b))≤4611686018427387904:=by
 obtain ⟨_,hb,hit⟩:=zob hf
 have hvv:∀ w∈l,zbB w.Ann=true:=fun w hw=>List.all_eq_true.1 hv w hw
 have hlen:(zeD l).length≤1000000:=by rw [zPR]; exact Nat.le_trans (List.length_filter_le _ _) hl
 constructor
 ·refine zLw ⟨⟨by simp [tstA],hlen,by have:=zp1 hb; simp only [tstA]; omega⟩,fun y hy=>(by cases hy),fun w hw=> ?_⟩
  have hm:=(zJb hw).1
  exact ⟨by have:=zp1 (hit w hm).1; omega,(zeH (hvv w hm)).1⟩
 ·rw [zOw,zf8]
  have h1:zcI (zeD l)≤(zeD l).length*(4096+1):=zLm _ fun w hw=>(zeH (hvv w (zJb hw).1)).2.1
  show 2+(zel []+zcI (zeD l))≤_
  rw [zfx]
  have:=Nat.mul_le_mul hlen (Nat.le_refl (4096+1))
  omega
theorem zYp {d:Nat} (l:List Weighted) (hl:l.length≤1000000) (h:∀ w∈l,zq d w.Ann∧zP w.Ann≤4611686018427387904) (hd:d≤99):zbQ l=(true, !l.all fun w=>zbB w.Ann):=by
 unfold zbQ zdB
 have:zcO l=IG (fun (_:Unit) x=>zk7 x) (l.length+(Int.ofNat l.length).toNat +Int.toNat (0:Int)+(1:Nat)) () l:=rfl
 rw [zmB (P:=fun w=> !zbB w.Ann) (this.trans (zJw _ _ _ _ _ (by omega) (fun x hx=>by
  unfold zk7 zqo
  rw [Wy.fin_bn,zQ1 (h x hx).1 (by omega) (h x hx).2]; rfl) (by omega)))]
 simp [List.all_eq_not_any_not]
theorem zXY {d:Nat} (fn:Int) (l:List Weighted) (op:Int) (b:Value) (hl:l.length≤1000000) (h:∀ w∈l,zq d w.Ann∧zP w.Ann≤4611686018427387904) (hd:d≤99) (h20:(l.filter hasA).length<20):
  zlq fn l op b=(true,zzX fn l op b):=by
 unfold zlq zuE zzX
 have hI:=zXg l hl (fun w hw=>(h w hw).1) hd h20
 have hgt:decide (Int.ofNat (zeD l).length>0)=decide (0<(zeD l).length):=zne _ 0
 simp only [Wy.fin_bn,Wy.fin_i,Wy.fin_k,zPy fn l op b hl,zYp l hl h hd,hI,cond_true,hgt]
 cases hf:fitK fn l op b with
 | false=>rfl
 | true=>
  cases hv:l.all fun w=>zbB w.Ann with
  | false=>rfl
  | true=>
   simp only [Bool.not_true,cond_false,Bool.and_self]
   rw [zAo]
   have hx:(⟨4,⟨0,0⟩,[],fn,zeD l,op,b⟩:Atom)=tstA fn (zeD l) op b:=rfl
   rw [hx,ztP (zDV hl hf hv).1 (by omega) (zDV hl hf hv).2]
   cases decide (0<(zeD l).length) with
   | true=>rfl
   | false=>
    simp only [cond_false,zqi,zWH,cond_true]
    cases fn==0 with
    | false=>rfl
    | true=>
     cases mats op (cmpI 0 b.Int) <;>rfl
theorem zXt {d:Nat} (fn:Int) (l:List Weighted) (op:Int) (b:Value) (hl:l.length≤1000000) (h:∀ w∈l,zq d w.Ann∧zP w.Ann≤4611686018427387904) (hd:d≤99):
  ztQ fn l op b=(true,zzX fn l op b):=by
 unfold ztQ zDM zzX
 have hI:=zWf l hl (fun w hw=>(h w hw).1) hd
 have hgt:decide (0<(zeD l).length)= !((zeD l).length==0):=by rw [zS3,Bool.not_not]
 have hL:zJM (fn.toNat +l.length+op.toNat +Int.toNat (0:Int)+(1:Nat)) fn l op (0:Int) b=(true,bif l.all fun w=>zbB w.Ann then .inr (fn,l,op,b) else .inl 1):=by
  have:=zdt (W:=zvD) (z:=.inl default) l.length (fun i=>(fn,l,op,(),(i:Int),())) (fun _=>(b,())) (fun i=>(fun w:Weighted=>zbB w.Ann) (l.getD i default)) (.inl 1) (.inr (fn,l,op,b))
   (fun i hi H K D=>by
    show (zra fn l op i b).ev H K D=_
    unfold zra
    have hx:=h _ (zx hi)
    simp only [Wy.ev_i,Wy.ev_k,Wy.ev_h,Wy.ev_bn,Wy.ev_d,tT,hi,zPG hx.1 (by omega) hx.2]
    rw [zT (by omega)]
    cases zbB (l.getD i default).Ann <;>rfl)
   (fun H K D=>by
    show (zra fn l op l.length b).ev H K D=_
    unfold zra
    simp only [Wy.ev_i,Wy.ev_k,tT,Nat.lt_irrefl]) (fn.toNat +l.length+op.toNat +Int.toNat (0:Int)+(1:Nat)) (by omega)
  rw [zsi (fun w:Weighted=>zbB w.Ann)] at this
  exact this
 simp only [Wy.fin_bn,Wy.fin_i,Wy.fin_k,zR8 fn l op b hl,hL,cond_true,hgt]
 cases hf:fitK fn l op b with
 | false=>rfl
 | true=>
  cases hv:l.all fun w=>zbB w.Ann with
  | false=>rfl
  | true=>
   simp only [Bool.not_true,cond_false,cond_true,Bool.and_self,isL,getR,hI]
   rw [show (Int.ofNat (zeD l).length==(0:Int))=((zeD l).length==0) from zqz _ 0,zHu]
   have hx:(⟨4,⟨0,0⟩,[],fn,zeD l,op,b⟩:Atom)=tstA fn (zeD l) op b:=rfl
   rw [hx,zIi (zDV hl hf hv).1 (by omega) (zDV hl hf hv).2]
   cases ((zeD l).length==0) with
   | false=>rfl
   | true=>
    obtain ⟨⟨_,_,o1,o2⟩,_⟩:=zob hf
    simp only [cond_false,Bool.not_true,zlu,zVB o1 o2,cond_true]
    cases fn==0 with
    | false=>rfl
    | true=>
     cases mats op (cmpI 0 b.Int) <;>rfl
def insT (t:Term):List Term→List Term
 | []=>[t]
 | x::r=>if cT x t=0 then ⟨ztL x.Coeff t.Coeff,t.Factors⟩::r else t::x::r
def insF (f:Factor):List Factor→List Factor
 | []=>[f]
 | x::r=>if cF x f=0 then (if f.Atom.Kind<3 then ⟨f.Atom,x.Exp+f.Exp⟩ else f)::r else f::x::r
theorem zX4 {t:Term} {l:List Term} {k:Nat} (hk:k<l.length):insT t (l.drop k)=if cT (l.getD k default) t=0 then ⟨ztL (l.getD k default).Coeff t.Coeff,t.Factors⟩::l.drop (k+1) else t::l.drop k:=by
 rw [zbu hk]; rfl
theorem zXQ {f:Factor} {l:List Factor} {k:Nat} (hk:k<l.length):insF f (l.drop k)=if cF (l.getD k default) f=0 then (if f.Atom.Kind<3 then ⟨f.Atom,(l.getD k default).Exp+f.Exp⟩ else f)::l.drop (k+1) else f::l.drop k:=by
 rw [zbu hk]; rfl
theorem zT2 (t:Term):∀ l:List Term,putA t l=l.takeWhile (fun x=>decide (cT x t<0))++insT t (l.dropWhile (fun x=>decide (cT x t<0)))
 | []=>rfl
 | x::r=>by
  rw [List.takeWhile_cons,List.dropWhile_cons]
  unfold putA
  by_cases h:cT x t<0
  ·simp only [h,if_true,decide_true,List.cons_append]
   rw [zT2 t r]
  ·simp only [h,if_false,decide_false,Bool.false_eq_true,List.nil_append]; rfl
theorem zUi (f:Factor):∀ l:List Factor,facA f l=l.takeWhile (fun x=>decide (cF x f<0))++insF f (l.dropWhile (fun x=>decide (cF x f<0)))
 | []=>rfl
 | x::r=>by
  rw [List.takeWhile_cons,List.dropWhile_cons]
  unfold facA
  by_cases h:cF x f<0
  ·simp only [h,if_true,decide_true,List.cons_append]
   rw [zUi f r]
  ·simp only [h,if_false,decide_false,Bool.false_eq_true,List.nil_append]; rfl
theorem zUf {a b:Int} (ha:0≤a∧a≤1152921504606846976) (hb:0≤b∧b≤1152921504606846976):IntKind.i64.wrap (a+b)=a+b:=zid (by omega) (by omega)
theorem zVM {τ:Type} (l:List τ) (p:τ→Bool):(l.takeWhile p).length≤l.length:=(List.takeWhile_prefix p).length_le
theorem beq0 (z:Int):(z==0)=decide (z=0):=beqd z 0
theorem zUJ {d:Nat} (l:List Term) (t:Term) (hl:l.length≤1000000) (h:∀ x∈l,zfw (zq d) x.Factors) (hd:d≤99) (hc:∀ x∈l,cOK x) (ht:cOK t):zwE l t=(true,putA t l):=by
 have hreach:zQ=70368744177664:=rfl
 unfold zwE zG2
 have hL:=zJh (W:=zx4) (z:=default) l (fun x=>decide (cT x t<0)) (fun k=>(l,(),(k:Int),())) (fun _=>(t,())) (fun k=>(l,(k:Int),t))
  (fun k hk H K D=>by
   show (zss l k t).ev H K D=_
   unfold zss
   simp only [Wy.ev_i,Wy.ev_k,Wy.ev_h,Wy.ev_bn,Wy.ev_d,tT,hk,znE (h _ (zx hk)) hd]
   rw [zT (by omega)]; rfl)
  (fun H K D=>by
   show (zss l l.length t).ev H K D=_
   unfold zss
   simp only [Wy.ev_i,Wy.ev_k,tT,Nat.lt_irrefl]) ((l.length+Int.toNat (0:Int)+(1:Nat))+t.Factors.length) (by omega)
 have hL:zMD ((l.length+Int.toNat (0:Int)+(1:Nat))+t.Factors.length) l 0 t=_:=hL
 rw [hL,zMF,zT2]
 have q1:=zVM l (fun x=>decide (cT x t<0))
 have q2:=zMY (fun x=>decide (cT x t<0)) l
 have q3:=zMH (fun x=>decide (cT x t<0)) l
 generalize (l.takeWhile fun x=>decide (cT x t<0)).length=k at q1 q2 q3 ⊢
 rw [← q2, ← q3]
 have g1:(decide ((0:Int)≤(0:Int))&&decide ((0:Int)≤(k:Int))&&decide ((k:Int)≤Int.ofNat l.length))=true:=by simp only [Bool.and_eq_true,decide_eq_true_eq,Int.ofNat_eq_natCast]; omega
 have g2:decide ((0+(l.take k).length)*32≤zQ)=true:=by simp only [decide_eq_true_eq,List.length_take]; omega
 have g4:∀ m:Nat,decide (((l.take k).length+[(⟨0,[]⟩:Term)].length)*32≤zQ)=true:=fun m=>by simp only [decide_eq_true_eq,List.length_take,List.length_singleton]; omega
 simp only [Wy.fin_i,Wy.fin_k,Wy.fin_bn,List.nil_append,Int.toNat_natCast,zQs,zww,g1,g2,cond_true]
 by_cases hk:k<l.length
 ·have g3:decide ((k:Int)<Int.ofNat l.length)=true:=by simp [hk]
  have g5:(decide ((0:Int)≤(k:Int))&&decide ((k:Int)<Int.ofNat l.length))=true:=by rw [g3]; simp
  have hm:=zx hk
  simp only [g3,zem,Bool.and_self,cond_true,znE (h _ hm) hd]
  rw [beq0,zX4 hk]
  have gw:IntKind.i64.wrap ((k:Int)+1)=((k+1:Nat):Int):=zT (by omega)
  have gp:(zqD (l.getD k default).Coeff t.Coeff).2=ztL (l.getD k default).Coeff t.Coeff:=by
   unfold zqD zDU ztL
   rw [Wy.fin_k,zUf ⟨by have:=(hc _ hm).1; omega,(hc _ hm).2⟩ ⟨by have:=ht.1; omega,ht.2⟩]
  have gk:(decide ((0:Int)≤(k:Int))&&decide ((k:Int)≤Int.ofNat l.length)&&decide (Int.ofNat l.length≤Int.ofNat l.length))=true:=by simp only [Bool.and_eq_true,decide_eq_true_eq,Int.ofNat_eq_natCast]; omega
  have gk':decide ((k:Int)≤Int.ofNat l.length)=true:=by simp only [decide_eq_true_eq,Int.ofNat_eq_natCast]; omega
  have gk1':decide (((k+1:Nat):Int)≤Int.ofNat l.length)=true:=by simp only [decide_eq_true_eq,Int.ofNat_eq_natCast]; omega
  have gk1:(decide ((0:Int)≤((k+1:Nat):Int))&&decide (((k+1:Nat):Int)≤Int.ofNat l.length)&&decide (Int.ofNat l.length≤Int.ofNat l.length))=true:=by simp only [Bool.and_eq_true,decide_eq_true_eq,Int.ofNat_eq_natCast]; omega
  have gb:∀ x:Term,decide (((l.take k).length+[x].length)*32≤zQ)=true:=fun x=>by simp only [decide_eq_true_eq,List.length_take,List.length_singleton]; omega
  have gc:∀ (x:Term) (m:Nat),decide (((l.take k++[x]).length+(l.drop m).length)*32≤zQ)=true:=fun x m=>by simp only [decide_eq_true_eq,List.length_take,List.length_drop,List.length_append,List.length_singleton]; omega
  by_cases hz:cT (l.getD k default) t=0
  ·have hz':cmpL (zbC (l.getD k default).Factors) (zbC t.Factors)=0:=hz
   simp only [hz,hz',if_true,decide_true,cond_true,gw,gp,zem,Bool.true_and,gk1',Int.le_refl,decide_true,cond_true,Bool.and_self,gb,gc,Int.toNat_natCast,zww,List.append_assoc,List.singleton_append]
  ·have hz':¬ cmpL (zbC (l.getD k default).Factors) (zbC t.Factors)=0:=hz
   simp only [hz,hz',if_false,decide_false,cond_false,cond_true,zem,Bool.true_and,gk',Int.le_refl,decide_true,cond_true,Bool.and_self,gb,gc,List.append_assoc,List.singleton_append]
 ·have hk':k=l.length:=by omega
  have g3:decide ((k:Int)<Int.ofNat l.length)=false:=by simp [hk]
  have gk:(decide ((0:Int)≤(k:Int))&&decide ((k:Int)≤Int.ofNat l.length)&&decide (Int.ofNat l.length≤Int.ofNat l.length))=true:=by simp only [Bool.and_eq_true,decide_eq_true_eq,Int.ofNat_eq_natCast]; omega
  have gb:∀ x:Term,decide (((l.take k).length+[x].length)*32≤zQ)=true:=fun x=>by simp only [decide_eq_true_eq,List.length_take,List.length_singleton]; omega
  have gc:∀ (x:Term) (m:Nat),decide (((l.take k++[x]).length+(l.drop m).length)*32≤zQ)=true:=fun x m=>by simp only [decide_eq_true_eq,List.length_take,List.length_drop,List.length_append,List.length_singleton]; omega
  have gk':decide ((k:Int)≤Int.ofNat l.length)=true:=by simp only [decide_eq_true_eq,Int.ofNat_eq_natCast]; omega
  simp only [g3,zem,Bool.true_and,gk',Int.le_refl,decide_true,Bool.and_self,gb,gc,cond_true,cond_false]
  rw [zcE hk]
  simp [insT,insF]
theorem zYz {d:Nat} (l:List Factor) (f:Factor) (hl:l.length≤1000000) (h:∀ x∈l,zcJ (zq d) x.Atom) (hd:d≤99) (hc:∀ x∈l,0≤x.Exp∧x.Exp≤1000000) (ht:0≤f.Exp∧f.Exp≤1000000):zsC l f=(true,facA f l):=by
 have hreach:zQ=70368744177664:=rfl
 unfold zsC zzs
 have hL:=zJh (W:=zse) (z:=default) l (fun x=>decide (cF x f<0)) (fun k=>(l,(),(k:Int),())) (fun _=>(f,())) (fun k=>(l,(k:Int),f))
  (fun k hk H K D=>by
   show (zoh l k f).ev H K D=_
   unfold zoh
   simp only [Atom.eta,Wy.ev_i,Wy.ev_k,Wy.ev_h,Wy.ev_bn,Wy.ev_d,tT,hk,zqB (h _ (zx hk)) hd]
   rw [zT (by omega)]; rfl)
  (fun H K D=>by
   show (zoh l l.length f).ev H K D=_
   unfold zoh
   simp only [Wy.ev_i,Wy.ev_k,tT,Nat.lt_irrefl]) (l.length+Int.toNat (0:Int)+f.Atom.Args.length+f.Atom.Items.length+(1:Nat)) (by omega)
 have hL:zFC (l.length+Int.toNat (0:Int)+f.Atom.Args.length+f.Atom.Items.length+(1:Nat)) l 0 f=_:=hL
 rw [Atom.eta,show (FactorOf.mk f.Atom f.Exp:Factor)=f from rfl,hL,zMF,zUi]
 have q1:=zVM l (fun x=>decide (cF x f<0))
 have q2:=zMY (fun x=>decide (cF x f<0)) l
 have q3:=zMH (fun x=>decide (cF x f<0)) l
 generalize (l.takeWhile fun x=>decide (cF x f<0)).length=k at q1 q2 q3 ⊢
 rw [← q2, ← q3]
 have g1:(decide ((0:Int)≤(0:Int))&&decide ((0:Int)≤(k:Int))&&decide ((k:Int)≤Int.ofNat l.length))=true:=by simp only [Bool.and_eq_true,decide_eq_true_eq,Int.ofNat_eq_natCast]; omega
 have g2:decide ((0+(l.take k).length)*128≤zQ)=true:=by simp only [decide_eq_true_eq,List.length_take]; omega
 have gb:∀ x:Factor,decide (((l.take k).length+[x].length)*128≤zQ)=true:=fun x=>by simp only [decide_eq_true_eq,List.length_take,List.length_singleton]; omega
 have gc:∀ (x:Factor) (m:Nat),decide (((l.take k++[x]).length+(l.drop m).length)*128≤zQ)=true:=fun x m=>by simp only [decide_eq_true_eq,List.length_take,List.length_drop,List.length_append,List.length_singleton]; omega
 have gk:(decide ((0:Int)≤(k:Int))&&decide ((k:Int)≤Int.ofNat l.length)&&decide (Int.ofNat l.length≤Int.ofNat l.length))=true:=by simp only [Bool.and_eq_true,decide_eq_true_eq,Int.ofNat_eq_natCast]; omega
 have ef:(FactorOf.mk f.Atom f.Exp:Factor)=f:=rfl
 simp only [Atom.eta,ef,Wy.fin_i,Wy.fin_k,Wy.fin_bn,List.nil_append,Int.toNat_natCast,zQs,zww,g1,g2,cond_true]
 by_cases hk:k<l.length
 ·have g3:decide ((k:Int)<Int.ofNat l.length)=true:=by simp [hk]
  have g5:(decide ((0:Int)≤(k:Int))&&decide ((k:Int)<Int.ofNat l.length))=true:=by rw [g3]; simp
  have hm:=zx hk
  simp only [g3,zem,Bool.and_self,cond_true,zqB (h _ hm) hd]
  rw [beq0,zXQ hk]
  have gw:IntKind.i64.wrap ((k:Int)+1)=((k+1:Nat):Int):=zT (by omega)
  have gp:IntKind.i64.wrap ((l.getD k default).Exp+f.Exp)=(l.getD k default).Exp+f.Exp:=by have:=hc _ hm; exact zid (by omega) (by omega)
  have gk':decide ((k:Int)≤Int.ofNat l.length)=true:=by simp only [decide_eq_true_eq,Int.ofNat_eq_natCast]; omega
  have gk1':decide (((k+1:Nat):Int)≤Int.ofNat l.length)=true:=by simp only [decide_eq_true_eq,Int.ofNat_eq_natCast]; omega
  have gk1:(decide ((0:Int)≤((k+1:Nat):Int))&&decide (((k+1:Nat):Int)≤Int.ofNat l.length)&&decide (Int.ofNat l.length≤Int.ofNat l.length))=true:=by simp only [Bool.and_eq_true,decide_eq_true_eq,Int.ofNat_eq_natCast]; omega
  by_cases hz:cF (l.getD k default) f=0
  ·have hz':cmpT (zdI (l.getD k default).Atom) (zdI f.Atom)=0:=hz
   by_cases hk3:f.Atom.Kind<3
   ·simp only [hz,hz',hk3,if_true,decide_true,cond_true,gw,gp,zem,Bool.true_and,gk1',Int.le_refl,decide_true,cond_true,Bool.and_self,gb,gc,Int.toNat_natCast,zww,List.append_assoc,List.singleton_append]
   ·simp only [hz,hz',hk3,if_true,if_false,decide_true,decide_false,cond_true,cond_false,gw,gp,zem,Bool.true_and,gk1',Int.le_refl,decide_true,cond_true,Bool.and_self,gb,gc,Int.toNat_natCast,zww,List.append_assoc,List.singleton_append]
  ·have hz':¬ cmpT (zdI (l.getD k default).Atom) (zdI f.Atom)=0:=hz
   simp only [hz,hz',if_false,decide_false,cond_false,cond_true,zem,Bool.true_and,gk',Int.le_refl,decide_true,cond_true,Bool.and_self,gb,gc,List.append_assoc,List.singleton_append]
 ·have g3:decide ((k:Int)<Int.ofNat l.length)=false:=by simp [hk]
  have gk':decide ((k:Int)≤Int.ofNat l.length)=true:=by simp only [decide_eq_true_eq,Int.ofNat_eq_natCast]; omega
  simp only [g3,zem,Bool.true_and,gk',Int.le_refl,decide_true,Bool.and_self,gb,gc,cond_true,cond_false]
  rw [zcE hk]
  simp [insT,insF]
theorem zZi (n:Nat) (h:n≤4000000):zdl (n:Int)=(true,[]):=by
 have hreach:zQ=70368744177664:=rfl
 unfold zdl zgd
 have e0:IntKind.i64.wrap ((0:Int) - 0)=0:=rfl
 have e1:IntKind.i64.wrap ((n:Int) - 0)=(n:Int):=by rw [zid (by omega) (by omega)]; omega
 have e2:decide ((n:Int)<0)=false:=decide_eq_false (by omega)
 rw [Wy.fin_i,e2,cond_false,e0,e1]
 by_cases hn:(n:Int)>0
 ·have e3:(true&&(decide ((n:Int)*Int.ofNat (32:Nat)≤Int.ofNat zQ)&&(decide ((n:Int)≤Int.ofNat zQ)&& !Nat.beq (2:Nat) (0:Nat))))=true:=by
   simp only [Bool.and_eq_true,decide_eq_true_eq,Int.ofNat_eq_natCast]
   exact ⟨trivial,by rw [hreach]; omega,by rw [hreach]; omega,rfl⟩
  rw [Wy.fin_i,decide_eq_true hn,cond_true,Wy.fin_i,e3,cond_true,Wy.fin_k]
  simp
 ·rw [Wy.fin_i,decide_eq_false hn]; rfl
theorem zXd (ls:List (List Term)) (hn:ls.length≤10) (h:∀ l∈ls,l.length≤300000):zc1 ls=(true,ls.flatten):=by
 have hreach:zQ=70368744177664:=rfl
 unfold zc1 zfo
 have e:∀ l:List Term,l∈ls→l.length≤300000:=h
 have h1:=zcx (W:=zdG) (z:=default) (l:=ls) (fun i (n:Nat)=>(ls,(n:Int),ls,(ls.length:Int),(i:Int),())) (fun _ _=>()) (fun y n=>.inl (n+y.length)) (fun n=>(ls,(n:Int))) (fun i n=>n≤i*300000)
  (fun i n hi hI=>.inl ⟨_,rfl,by have:=e _ (zx hi); omega,fun H K D=>by
   show (zcA ls n ls ls.length i).ev H K D=_
   unfold zcA
   have hle:=e _ (zx hi)
   have hw:IntKind.i64.wrap ((n:Int)+((ls.getD i default).length:Int))=((n+(ls.getD i default).length:Nat):Int):=zlG (by omega)
   simp only [Wy.ev_i,Wy.ev_k,Wy.ev_h,Wy.ev_bn,Wy.ev_d,tT,hi,hw]
   have h0:decide (((n+(ls.getD i default).length:Nat):Int)<0)=false:=decide_eq_false (by omega)
   rw [h0,zT (by omega)]; rfl⟩)
  (fun n hI H K D=>by
   show (zcA ls n ls ls.length ls.length).ev H K D=_
   unfold zcA
   simp only [Wy.ev_i,Wy.ev_k,tT,Nat.lt_irrefl]) (ls.length+Int.toNat (0:Int)+ls.length+(Int.ofNat ls.length).toNat +Int.toNat (0:Int)+(1:Nat)) 0 0 (by omega) (by omega) (by omega)
 rw [List.drop_zero,zcw] at h1
 have h1:zjb (ls.length+Int.toNat (0:Int)+ls.length+(Int.ofNat ls.length).toNat +Int.toNat (0:Int)+(1:Nat)) ls 0 ls (Int.ofNat ls.length) 0=_:=h1
 have hb:∀ (r:List (List Term)) (n:Nat),(∀ l∈r,l.length≤300000)→r.foldl (fun n (y:List Term)=>n+y.length) n≤n+r.length*300000:=fun r=>by
  induction r with
  | nil=>intro n _; simp
  | cons y r ih=>
   intro n hr
   have q1:=ih (n+y.length) fun l hl=>hr l (by simp [hl])
   have q2:=hr y (by simp)
   rw [List.foldl_cons,List.length_cons]; omega
 have hsz:=hb ls 0 h
 have h2:=zcx (W:=zdw) (z:=default) (l:=ls) (fun i (out:List Term)=>((),ls,(ls.length:Int),(i:Int),())) (fun _ out=>(out,())) (fun y out=>.inl (out++y)) (fun out=>out) (fun i out=>out.length≤i*300000)
  (fun i out hi hI=>.inl ⟨_,rfl,by have:=e _ (zx hi); simp only [List.length_append]; omega,fun H K D=>by
   show (zcu ls ls.length i out).ev H K D=_
   unfold zcu
   have hle:=e _ (zx hi)
   have hr:decide ((out.length+(ls.getD i default).length)*32≤zQ)=true:=by simp only [decide_eq_true_eq]; omega
   simp only [Wy.ev_i,Wy.ev_k,Wy.ev_h,Wy.ev_bn,Wy.ev_d,tT,hi,hr]
   rw [zT (by omega)]⟩)
  (fun out hI H K D=>by
   show (zcu ls ls.length ls.length out).ev H K D=_
   unfold zcu
   simp only [Wy.ev_i,Wy.ev_k,tT,Nat.lt_irrefl]) (ls.length+(Int.ofNat ls.length).toNat +Int.toNat (0:Int)+([]:List Term).length+(1:Nat)) 0 [] (by omega) (by omega) (by simp)
 rw [List.drop_zero,zcw] at h2
 have h2:ziZ (ls.length+(Int.ofNat ls.length).toNat +Int.toNat (0:Int)+([]:List Term).length+(1:Nat)) ls (Int.ofNat ls.length) 0 []=_:=h2
 have hf:∀ (r:List (List Term)) (out:List Term),r.foldl (fun out y=>out++y) out=out++r.flatten:=fun r=>by
  induction r with
  | nil=>intro out; simp
  | cons y r ih=>intro out; rw [List.foldl_cons,ih,List.flatten_cons,List.append_assoc]
 rw [Wy.fin_bn,h1,cond_true]
 simp only [Wy.fin_bn,zZi _ (show ls.foldl (fun n (y:List Term)=>n+y.length) 0≤4000000 by have:=Nat.mul_le_mul hn (Nat.le_refl 300000); omega),cond_true,h2,Wy.fin_k]
 rw [hf]; simp
theorem zY4 (n:Nat) (h:n≤4000000):zdz (n:Int)=(true,[]):=by
 have hreach:zQ=70368744177664:=rfl
 unfold zdz zgI
 have e0:IntKind.i64.wrap ((0:Int) - 0)=0:=rfl
 have e1:IntKind.i64.wrap ((n:Int) - 0)=(n:Int):=by rw [zid (by omega) (by omega)]; omega
 have e2:decide ((n:Int)<0)=false:=decide_eq_false (by omega)
 rw [Wy.fin_i,e2,cond_false,e0,e1]
 by_cases hn:(n:Int)>0
 ·have e3:(true&&(decide ((n:Int)*Int.ofNat (128:Nat)≤Int.ofNat zQ)&&(decide ((n:Int)≤Int.ofNat zQ)&& !Nat.beq (11:Nat) (0:Nat))))=true:=by
   simp only [Bool.and_eq_true,decide_eq_true_eq,Int.ofNat_eq_natCast]
   exact ⟨trivial,by rw [hreach]; omega,by rw [hreach]; omega,rfl⟩
  rw [Wy.fin_i,decide_eq_true hn,cond_true,Wy.fin_i,e3,cond_true,Wy.fin_k]
  simp
 ·rw [Wy.fin_i,decide_eq_false hn]; rfl
theorem zXx (ls:List (List Factor)) (hn:ls.length≤10) (h:∀ l∈ls,l.length≤300000):zc9 ls=(true,ls.flatten):=by
 have hreach:zQ=70368744177664:=rfl
 unfold zc9 zfN
 have e:∀ l:List Factor,l∈ls→l.length≤300000:=h
 have h1:=zcx (W:=zdS) (z:=default) (l:=ls) (fun i (n:Nat)=>(ls,(n:Int),ls,(ls.length:Int),(i:Int),())) (fun _ _=>()) (fun y n=>.inl (n+y.length)) (fun n=>(ls,(n:Int))) (fun i n=>n≤i*300000)
  (fun i n hi hI=>.inl ⟨_,rfl,by have:=e _ (zx hi); omega,fun H K D=>by
   show (zcG ls n ls ls.length i).ev H K D=_
   unfold zcG
   have hle:=e _ (zx hi)
   have hw:IntKind.i64.wrap ((n:Int)+((ls.getD i default).length:Int))=((n+(ls.getD i default).length:Nat):Int):=zlG (by omega)
   simp only [Wy.ev_i,Wy.ev_k,Wy.ev_h,Wy.ev_bn,Wy.ev_d,tT,hi,hw]
   have h0:decide (((n+(ls.getD i default).length:Nat):Int)<0)=false:=decide_eq_false (by omega)
   rw [h0,zT (by omega)]; rfl⟩)
  (fun n hI H K D=>by
   show (zcG ls n ls ls.length ls.length).ev H K D=_
   unfold zcG
   simp only [Wy.ev_i,Wy.ev_k,tT,Nat.lt_irrefl]) (ls.length+Int.toNat (0:Int)+ls.length+(Int.ofNat ls.length).toNat +Int.toNat (0:Int)+(1:Nat)) 0 0 (by omega) (by omega) (by omega)
 rw [List.drop_zero,zcw] at h1
 have h1:zjV (ls.length+Int.toNat (0:Int)+ls.length+(Int.ofNat ls.length).toNat +Int.toNat (0:Int)+(1:Nat)) ls 0 ls (Int.ofNat ls.length) 0=_:=h1
 have hb:∀ (r:List (List Factor)) (n:Nat),(∀ l∈r,l.length≤300000)→r.foldl (fun n (y:List Factor)=>n+y.length) n≤n+r.length*300000:=fun r=>by
  induction r with
  | nil=>intro n _; simp
  | cons y r ih=>
   intro n hr
   have q1:=ih (n+y.length) fun l hl=>hr l (by simp [hl])
   have q2:=hr y (by simp)
   rw [List.foldl_cons,List.length_cons]; omega
 have hsz:=hb ls 0 h
 have h2:=zcx (W:=zdD) (z:=default) (l:=ls) (fun i (out:List Factor)=>((),ls,(ls.length:Int),(i:Int),())) (fun _ out=>(out,())) (fun y out=>.inl (out++y)) (fun out=>out) (fun i out=>out.length≤i*300000)
  (fun i out hi hI=>.inl ⟨_,rfl,by have:=e _ (zx hi); simp only [List.length_append]; omega,fun H K D=>by
   show (zcB ls ls.length i out).ev H K D=_
   unfold zcB
   have hle:=e _ (zx hi)
   have hr:decide ((out.length+(ls.getD i default).length)*128≤zQ)=true:=by simp only [decide_eq_true_eq]; omega
   simp only [Wy.ev_i,Wy.ev_k,Wy.ev_h,Wy.ev_bn,Wy.ev_d,tT,hi,hr]
   rw [zT (by omega)]⟩)
  (fun out hI H K D=>by
   show (zcB ls ls.length ls.length out).ev H K D=_
   unfold zcB
   simp only [Wy.ev_i,Wy.ev_k,tT,Nat.lt_irrefl]) (ls.length+(Int.ofNat ls.length).toNat +Int.toNat (0:Int)+([]:List Factor).length+(1:Nat)) 0 [] (by omega) (by omega) (by simp)
 rw [List.drop_zero,zcw] at h2
 have h2:zjA (ls.length+(Int.ofNat ls.length).toNat +Int.toNat (0:Int)+([]:List Factor).length+(1:Nat)) ls (Int.ofNat ls.length) 0 []=_:=h2
 have hf:∀ (r:List (List Factor)) (out:List Factor),r.foldl (fun out y=>out++y) out=out++r.flatten:=fun r=>by
  induction r with
  | nil=>intro out; simp
  | cons y r ih=>intro out; rw [List.foldl_cons,ih,List.flatten_cons,List.append_assoc]
 rw [Wy.fin_bn,h1,cond_true]
 simp only [Wy.fin_bn,zY4 _ (show ls.foldl (fun n (y:List Factor)=>n+y.length) 0≤4000000 by have:=Nat.mul_le_mul hn (Nat.le_refl 300000); omega),cond_true,h2,Wy.fin_k]
 rw [hf]; simp
theorem zAM {d:Nat} (hd:d≤99):∀ (n:Nat) (a b out:List Factor),a.length+b.length<n→a.length+b.length+out.length≤1000000→(∀ x∈a,zcJ (zq d) x.Atom∧0≤x.Exp∧x.Exp≤1000000)→(∀ x∈b,0≤x.Exp∧x.Exp≤1000000)→
  ∃ a' b' out',zsk n a b out=(true,(a',b',out'))∧out'++(a'++b')=out++zbN a b∧a'.length≤a.length∧b'.length≤b.length∧out'.length≤out.length+a.length+b.length
 | 0,a,b,out,h,_,_,_=>by omega
 | n+1,a,b,out,h,hl,ha,hb=>by
  have hreach:zQ=70368744177664:=rfl
  show ∃ a' b' out',(zsY a b out).ev (fun x y=>zsk n x.1 x.2.1 y.1) (fun r=>(true,r)) (false,default)=_∧_
  unfold zsY
  match a,b,h,hl,ha,hb with
  | [],b,h,hl,ha,hb=>exact ⟨[],b,out,rfl,by rw [zbN]; simp,Nat.le_refl _,Nat.le_refl _,by omega⟩
  | x::a,[],h,hl,ha,hb=>
   have e1:decide (Int.ofNat (x::a).length>0)=true:=by simp
   refine ⟨x::a,[],out, ?_,by rw [zbN]; simp,Nat.le_refl _,Nat.le_refl _,by omega⟩
   rw [Wy.ev_i,e1,cond_true]; rfl
  | x::a,y::b,h,hl,ha,hb=>
   have hx:=ha x (by simp)
   have hy:=hb y (by simp)
   simp only [List.length_cons] at h hl
   have e1:decide (Int.ofNat (x::a).length>0)=true:=by simp
   have e2:decide (Int.ofNat (y::b).length>0)=true:=by simp
   have e3:(decide ((0:Int)≤0)&&decide ((0:Int)<Int.ofNat (x::a).length))=true:=by simp
   have e4:(decide ((0:Int)≤0)&&decide ((0:Int)<Int.ofNat (y::b).length))=true:=by simp
   have e5:(x::a).getD (Int.toNat 0) default=x:=rfl
   have e6:(y::b).getD (Int.toNat 0) default=y:=rfl
   have e7:∀ z:Factor,decide ((out.length+[z].length)*128≤zQ)=true:=fun z=>by simp only [decide_eq_true_eq,List.length_singleton]; omega
   have e8:(decide ((0:Int)≤1)&&decide ((1:Int)≤Int.ofNat (x::a).length)&&decide (Int.ofNat (x::a).length≤Int.ofNat (x::a).length))=true:=by simp; omega
   have e9:(decide ((0:Int)≤1)&&decide ((1:Int)≤Int.ofNat (y::b).length)&&decide (Int.ofNat (y::b).length≤Int.ofNat (y::b).length))=true:=by simp; omega
   have e10:List.take ((Int.ofNat (x::a).length).toNat - Int.toNat 1) (List.drop (Int.toNat 1) (x::a))=a:=by rw [show Int.toNat 1=1 from rfl,zww]; rfl
   have e11:List.take ((Int.ofNat (y::b).length).toNat - Int.toNat 1) (List.drop (Int.toNat 1) (y::b))=b:=by rw [show Int.toNat 1=1 from rfl,zww]; rfl
   have ea:∀ z∈a,zcJ (zq d) z.Atom∧0≤z.Exp∧z.Exp≤1000000:=fun z hz=>ha z (by simp [hz])
   have eb:∀ z∈b,0≤z.Exp∧z.Exp≤1000000:=fun z hz=>hb z (by simp [hz])
   have ex:(FactorOf.mk x.Atom x.Exp:Factor)=x:=rfl
   have ey:(FactorOf.mk y.Atom y.Exp:Factor)=y:=rfl
   simp only [Wy.ev_i,Wy.ev_k,Wy.ev_h,Wy.ev_bn,Wy.ev_d,e1,e2,e3,e4,e5,e6,e7,e8,e9,e10,e11,cond_true,Atom.eta,zqT hx.1 hd,zQJ,ex,ey]
   rw [zbN]
   have hcf:cF x y=cmpT (zdI x.Atom) (zdI y.Atom):=rfl
   rw [← hcf]
   by_cases h1:cF x y<0
   ·simp only [h1,decide_true,cond_true,if_true]
    obtain ⟨a',b',out',r1,r2,r3,r4,r5⟩:=zAM hd n a (y::b) (out++[x]) (by simp only [List.length_cons]; omega) (by simp only [List.length_cons,List.length_append,List.length_nil]; omega) ea hb
    refine ⟨a',b',out',r1,by rw [r2]; simp,by simp only [List.length_cons]; omega,by simpa using r4,by simp only [List.length_cons,List.length_append,List.length_nil] at r5 ⊢; omega⟩
   ·by_cases h2:0<cF x y
    ·have h2':cF x y>0:=h2
     simp only [h1,h2,h2',decide_true,decide_false,cond_true,cond_false,if_true,if_false]
     obtain ⟨a',b',out',r1,r2,r3,r4,r5⟩:=zAM hd n (x::a) b (out++[y]) (by simp only [List.length_cons]; omega) (by simp only [List.length_cons,List.length_append,List.length_nil]; omega) ha eb
     refine ⟨a',b',out',r1,by rw [r2]; simp,by simpa using r3,by simp only [List.length_cons]; omega,by simp only [List.length_cons,List.length_append,List.length_nil] at r5 ⊢; omega⟩
    ·have h2':¬ cF x y>0:=h2
     have hw:IntKind.i64.wrap (x.Exp+y.Exp)=x.Exp+y.Exp:=zid (by omega) (by omega)
     simp only [h1,h2,h2',decide_false,cond_false,if_false,hw]
     have hk:(x.Atom.Kind==3||x.Atom.Kind==4)=decide (x.Atom.Kind=3∨x.Atom.Kind=4):=by rw [beqd,beqd, ← Bool.decide_or]
     rw [hk]
     by_cases h3:x.Atom.Kind=3∨x.Atom.Kind=4
     ·simp only [h3,decide_true,Bool.not_true,cond_false,if_true]
      obtain ⟨a',b',out',r1,r2,r3,r4,r5⟩:=zAM hd n a b (out++[x]) (by omega) (by simp only [List.length_append,List.length_cons,List.length_nil]; omega) ea eb
      refine ⟨a',b',out',r1,by rw [r2]; simp,by simp only [List.length_cons]; omega,by simp only [List.length_cons]; omega,by simp only [List.length_cons,List.length_append,List.length_nil] at r5 ⊢; omega⟩
     ·simp only [h3,decide_false,Bool.not_false,cond_true,if_false]
      obtain ⟨a',b',out',r1,r2,r3,r4,r5⟩:=zAM hd n a b (out++[⟨x.Atom,x.Exp+y.Exp⟩]) (by omega) (by simp only [List.length_append,List.length_cons,List.length_nil]; omega) ea eb
      refine ⟨a',b',out',r1,by rw [r2]; simp,by simp only [List.length_cons]; omega,by simp only [List.length_cons]; omega,by simp only [List.length_cons,List.length_append,List.length_nil] at r5 ⊢; omega⟩
theorem zYF {d:Nat} (hd:d≤99) (a b:List Factor) (hl:a.length+b.length≤100000) (ha:∀ x∈a,zcJ (zq d) x.Atom∧0≤x.Exp∧x.Exp≤1000000) (hb:∀ x∈b,0≤x.Exp∧x.Exp≤1000000):zlo a b=(true,zbN a b):=by
 unfold zlo zuG
 obtain ⟨a',b',out',r1,r2,r3,r4,r5⟩:=zAM hd (a.length+b.length+(0:Nat)+(1:Nat)) a b [] (by omega) (by simp; omega) ha hb
 rw [Wy.fin_bn,r1,cond_true]
 have hc:=zXx [out',a',b'] (by simp) (fun l hl'=>by
  simp only [List.mem_cons,List.not_mem_nil,or_false] at hl'
  simp only [List.length_nil] at r5
  rcases hl' with rfl | rfl | rfl <;>omega)
 simp only [Wy.fin_bn,hc,cond_true,Wy.fin_k]
 congr 1
 simpa using r2
theorem zSX {a b:Int} (ha:1≤a∧a≤1152921504606846976) (hb:1≤b∧b≤1152921504606846976):zm8 a b=(true,zw7 a b)∧zu7 a b=(true,zw7 a b):=by
 obtain ⟨h1,h2⟩:=zPs ha hb
 have h0:(!decide (b=(0:Int)))=true:=by rw [decide_eq_false (by omega)]; rfl
 have hq:0≤Int.tdiv 1152921504606846976 b∧Int.tdiv 1152921504606846976 b≤1152921504606846976:=by
  rw [Int.tdiv_eq_ediv_of_nonneg (by omega)]
  exact ⟨Int.ediv_nonneg (by omega) (by omega),Int.ediv_le_self _ (by omega)⟩
 have hw:IntKind.i64.wrap (Int.tdiv 1152921504606846976 b)=Int.tdiv 1152921504606846976 b:=zid (by omega) (by omega)
 have key:∀ w:Int,(w=if Int.tdiv 1152921504606846976 b<a then 1152921504606846976 else IntKind.i64.wrap (a*b))→w=zw7 a b:=fun w e=>by
  rw [e]; unfold zw7
  split
  ·rfl
  ·rename_i hn
   have h3:=h2 hn
   have h4:=Int.mul_nonneg (show 0≤a by omega) (show 0≤b by omega)
   exact zid (by omega) (by omega)
 constructor
 ·unfold zm8 zti
  rw [Wy.fin_i,h0,cond_true,Wy.fin_i,hw,Wy.fin_k,Wy.fin_k]
  by_cases hc:Int.tdiv 1152921504606846976 b<a
  ·rw [decide_eq_true hc,cond_true]; exact congrArg (Prod.mk true) (key _ (by rw [if_pos hc]))
  ·rw [decide_eq_false hc,cond_false]; exact congrArg (Prod.mk true) (key _ (by rw [if_neg hc]))
 ·unfold zu7 zB0
  rw [Wy.fin_i,h0,cond_true,Wy.fin_i,hw,Wy.fin_k,Wy.fin_k]
  by_cases hc:Int.tdiv 1152921504606846976 b<a
  ·rw [decide_eq_true hc,cond_true]; exact congrArg (Prod.mk true) (key _ (by rw [if_pos hc]))
  ·rw [decide_eq_false hc,cond_false]; exact congrArg (Prod.mk true) (key _ (by rw [if_neg hc]))
theorem zs0 {τ:Type} [Inhabited τ] {R:τ→τ→Prop} (ht:∀ x y z,R x y→R y z→R x z):∀ l:List τ,(∀ k,0<k→k<l.length→R (l.getD (k - 1) default) (l.getD k default))→l.Pairwise R
 | [],_=>.nil
 | [x],_=>by simp
 | x::y::r,h=>by
  have h1:R x y:=h 1 (by omega) (by simp)
  have h2:=zs0 ht (y::r) fun k hk hl=>by
   have:=h (k+1) (by omega) (by simpa using hl)
   obtain ⟨j,rfl⟩:∃ j,k=j+1:=⟨k - 1,by omega⟩
   exact this
  refine List.pairwise_cons.2 ⟨fun z hz=> ?_,h2⟩
  rcases List.mem_cons.1 hz with rfl | hz
  ·exact h1
  ·exact ht x y z h1 ((List.pairwise_cons.1 h2).1 z hz)
def GF (f:Factor):Prop:=(zdT (zbA 9) f.Atom=true∧zfr f.Atom∧f.Atom.Items.length≤1024)∧1≤f.Exp∧f.Exp≤1000000
def GT (t:Term):Prop:=cOK t∧t.Factors.length≤1000∧∀ f∈t.Factors,GF f
def VT (t:Term):Prop:=GT t∧Srf t.Factors∧t.Factors.length≤64∧∀ f∈t.Factors,eOK f∧f.Exp≤64
theorem zsK {a:List Term} (h:zbB a=true) (hw:zfs a):Srs a∧a.length≤512∧∀ t∈a,VT t:=by
 have h9:=zJt h (Nat.le_refl 9)
 rw [zVj] at h
 obtain ⟨w1,w2,w3,w4⟩:=ztN (zAt h)
 have hall:=h
 simp only [vAnn,Bool.and_eq_true] at hall
 refine ⟨zs0 (R:=fun x y=>cT x y<0) (fun x y z h1 h2=>zDv h1 h2) a fun k hk hl=> ?_,w1,fun t ht=> ?_⟩
 ·have:=zea.1 hall.2 k (by omega) (by omega)
  simp only [chkT,Bool.and_eq_true,Bool.or_eq_true,decide_eq_true_eq] at this
  rcases this.1.2 with e | e
  ·omega
  ·exact e
 ·obtain ⟨hc,hok⟩:=zqf h ht
  obtain ⟨l1,l2⟩:=w4 t ht
  have hwt:=zlQ (zqw (zoo hw t ht)).2.1
  refine ⟨⟨hc,by omega,fun f hf=> ?_⟩,zs0 (R:=fun x y=>cF x y<0) (fun x y z h1 h2=>zze h1 h2) _ fun k hk hl=> ?_,l1,fun f hf=> ?_⟩
  ·obtain ⟨⟨e1,_⟩,hv⟩:=zme hok hf
   exact ⟨⟨by rw [zWk (Nat.le_refl 9)]; exact hv,(zmX (hwt f hf)).1,(l2 f hf).2⟩,e1,by have:=(l2 f hf).1; omega⟩
  ·have:=zea.1 hok k (by omega) (by omega)
   simp only [chkF,Bool.and_eq_true,Bool.or_eq_true,decide_eq_true_eq] at this
   rcases this.1.2 with e | e
   ·omega
   ·exact e
  ·obtain ⟨⟨_,e2⟩,hv⟩:=zme hok hf
   exact ⟨⟨zxJ hv,e2⟩,(l2 f hf).1⟩
theorem zqm {m:Nat} {x:Atom} (h:zdT (zbA m) x=true) (hi:x.Items.length≤1024):zcJ (zq 9) x:=by
 cases zdp.1 h with
 | var r h=>exact ⟨⟨by simp,by simp,by show (ByteArray.mk #[]).size≤_; decide⟩,fun a ha=>(by cases ha),fun w hw=>(by cases hw)⟩
 | mon b c hb hc _ _ _=>
  refine ⟨⟨by simp,by simp,by show (ByteArray.mk #[]).size≤_; decide⟩,fun y hy=> ?_,fun w hw=>(by cases hw)⟩
  simp only [List.mem_cons,List.not_mem_nil,or_false] at hy
  rcases hy with rfl | rfl
  ·exact (zeH hb).1
  ·exact (zeH hc).1
 | del b hb _ _ _=>
  refine ⟨⟨by simp,by simp,by show (ByteArray.mk #[]).size≤_; decide⟩,fun y hy=> ?_,fun w hw=>(by cases hw)⟩
  rw [List.mem_singleton] at hy; subst hy; exact (zeH hb).1
 | abs b hb _ _=>
  refine ⟨⟨by simp,by simp,by show (ByteArray.mk #[]).size≤_; decide⟩,fun y hy=> ?_,fun w hw=>(by cases hw)⟩
  rw [List.mem_singleton] at hy; subst hy; exact (zeH hb).1
 | tst f l o b hl hv hs hf=>
  obtain ⟨_,hb,hit⟩:=zob hf
  simp only at hi
  exact ⟨⟨by simp,by simp only; omega,by have:=zp1 hb; simp only; omega⟩,fun a ha=>(by cases ha),fun w hw=>⟨by have:=zp1 (hit w hw).1; omega,(zeH (hv w hw).1).1⟩⟩
theorem GT.fine {t:Term} (h:GT t):zfw (zq 9) t.Factors:=⟨by have:=h.2.1; omega,fun f hf=>zqm (h.2.2 f hf).1.1 (h.2.2 f hf).1.2.2⟩
theorem GF.gF {f:Factor} (h:GF f):gF (zbA 9) f:=⟨h.1.1,h.1.2.1,by constructor <;>(have:=h.2; omega)⟩
theorem GT.text {t:Term} (h:GT t):zm1 t.Factors=(true,bs (txL t.Factors)):=
 (zSF 1000).2.2 9 t.Factors h.2.1 (fun f hf=>⟨(h.2.2 f hf).1.1,(h.2.2 f hf).1.2.1,(h.2.2 f hf).1.2.2,(h.2.2 f hf).gF.2.2⟩) (by omega)
theorem GT.inj {s t:Term} (hs:GT s) (ht:GT t) (h:bs (txL s.Factors)=bs (txL t.Factors)):s.Factors=t.Factors:=
 zX7 (fun f hf=>(hs.2.2 f hf).gF) (fun f hf=>(ht.2.2 f hf).gF) (zZp h)
def zl9:Int→List Term→List (Go.Value×Int)
 | _,[]=>[]
 | i,t::r=>(.string (bs (txL t.Factors)),i)::zl9 (i+1) r
def posA (k:ByteArray):List Term→Option Nat
 | []=>none
 | t::r=>if k=bs (txL t.Factors) then some 0 else (posA k r).map (· +1)
theorem zGo (k:ByteArray) (t:Term) (r:List Term):posA k (t::r)=if k=bs (txL t.Factors) then some 0 else (posA k r).map (· +1):=rfl
theorem keyS (a b:ByteArray):zo2 (.string a) (.string b)=decide (a=b):=by
 cases a with | mk x=>cases b with | mk y=>
 show (x==y)=_
 by_cases h:x=y
 ·subst h; simp
 ·have:(x==y)=false:=by rw [beq_eq_false_iff_ne]; exact h
  rw [this]; simp [h]
theorem zTs (k:ByteArray):∀ (o:List Term) (i:Int),zUS (.string k) (zl9 i o)=(posA k o).isSome
 | [],i=>rfl
 | t::r,i=>by
  show (bif zo2 (.string k) (.string (bs (txL t.Factors))) then true else zUS (.string k) (zl9 (i+1) r))=_
  rw [keyS,zTs k r,zGo]
  by_cases h:k=bs (txL t.Factors)
  ·rw [decide_eq_true h,if_pos h]; rfl
  ·rw [decide_eq_false h,if_neg h]; cases posA k r <;>rfl
theorem zTn (k:ByteArray):∀ (o:List Term) (i:Int),zxA (.string k) (zl9 i o)=(posA k o).map fun j:Nat=>i+(j:Int)
 | [],i=>rfl
 | t::r,i=>by
  show (bif zo2 (.string k) (.string (bs (txL t.Factors))) then some i else zxA (.string k) (zl9 (i+1) r))=_
  rw [keyS,zTn k r,zGo]
  by_cases h:k=bs (txL t.Factors)
  ·rw [decide_eq_true h,if_pos h]; simp
  ·rw [decide_eq_false h,if_neg h]
   cases posA k r with
   | none=>rfl
   | some j=>
    have e:i+1+(j:Int)=i+((j+1:Nat):Int):=by omega
    simp only [cond_false,Option.map_some,e]
theorem zSY (k:ByteArray) (x:Int):∀ (o:List Term) (i:Int),posA k o=none→zUM (.string k) x (zl9 i o)=zl9 i o++[(.string k,x)]
 | [],i,_=>rfl
 | t::r,i,h=>by
  rw [zGo] at h
  by_cases hk:k=bs (txL t.Factors)
  ·rw [if_pos hk] at h; cases h
  ·rw [if_neg hk] at h
   show (bif zo2 (.string k) (.string (bs (txL t.Factors))) then _ else (.string (bs (txL t.Factors)),i)::zUM (.string k) x (zl9 (i+1) r))=_
   rw [keyS,decide_eq_false hk,zSY k x r (i+1) (by cases hp:posA k r with | none=>rfl | some j=>rw [hp] at h; cases h)]
   rfl
theorem zRr (t:Term):∀ (o:List Term) (i:Int),zl9 i (o++[t])=zl9 i o++[(.string (bs (txL t.Factors)),i+(o.length:Int))]
 | [],i=>by simp [zl9]
 | x::r,i=>by
  have e:i+1+(r.length:Int)=i+((r.length+1:Nat):Int):=by omega
  simp only [List.cons_append,zl9,List.length_cons,zRr t r,e]
theorem zQW (y:Term):∀ (o:List Term) (j:Nat) (i:Int),(o.getD j default).Factors=y.Factors→zl9 i (o.set j y)=zl9 i o
 | [],j,i,_=>rfl
 | x::r,0,i,h=>by simp only [List.set_cons_zero,zl9]; rw [show x.Factors=y.Factors from h]
 | x::r,j+1,i,h=>by simp only [List.set_cons_succ,zl9]; rw [zQW y r j (i+1) h]
theorem zUc {t:Term} (ht:GT t):∀ {o:List Term},(∀ x∈o,GT x)→(match posA (bs (txL t.Factors)) o with
  | some j=>j<o.length∧(o.getD j default).Factors=t.Factors∧updA t o=o.set j ⟨ztL (o.getD j default).Coeff t.Coeff,(o.getD j default).Factors⟩
  | none=>updA t o=o++[t])
 | [],_=>rfl
 | x::r,h=>by
  have ih:=zUc ht (o:=r) fun y hy=>h y (by simp [hy])
  rw [zGo]
  unfold updA
  by_cases hk:bs (txL t.Factors)=bs (txL x.Factors)
  ·have e:=GT.inj ht (h x (by simp)) hk
   rw [if_pos hk,if_pos e.symm]
   exact ⟨by simp,e.symm,rfl⟩
  ·have e:¬ x.Factors=t.Factors:=fun e=>hk (by rw [e])
   rw [if_neg hk,if_neg e]
   cases hp:posA (bs (txL t.Factors)) r with
   | none=>rw [hp] at ih; simp only [Option.map_none]; rw [ih]; rfl
   | some j=>
    rw [hp] at ih
    obtain ⟨i1,i2,i3⟩:=ih
    simp only [Option.map_some]
    exact ⟨by simp; exact i1,i2,by rw [i3]; rfl⟩
theorem zWA {t:Term} (ht:GT t) {o:List Term} (ho:∀ x∈o,GT x):∀ x∈updA t o,GT x:=by
 induction o with
 | nil=>intro x hx; simp only [updA,List.mem_singleton] at hx; subst hx; exact ht
 | cons y r ih=>
  intro x hx
  unfold updA at hx
  split at hx
  ·rcases List.mem_cons.1 hx with rfl | hx
   ·have:=ho y (by simp)
    exact ⟨zRh this.1.1 ht.1.1,this.2⟩
   ·exact ho x (by simp [hx])
  ·rcases List.mem_cons.1 hx with rfl | hx
   ·exact ho x (by simp)
   ·exact ih (fun z hz=>ho z (by simp [hz])) x hx
theorem zQx (t:Term):∀ o:List Term,(updA t o).length≤o.length+1
 | []=>by simp [updA]
 | y::r=>by
  have:=zQx t r
  unfold updA
  split
  ·simp
  ·simp only [List.length_cons]; omega
theorem zWn (ts:List Term) (hl:ts.length≤1000000) (h:∀ t∈ts,GT t) (n:Nat) (hn:ts.length<n):zpt n ts ts.length 0 [] []=(true,zGr ts):=by
 have hreach:zQ=70368744177664:=rfl
 have h2:=zcx (W:=zlj) (z:=default) (l:=ts) (fun i (out:List Term)=>((),(),ts,(ts.length:Int),(i:Int),())) (fun _ out=>(zl9 0 out,out,())) (fun t out=>.inl (updA t out)) (fun out=>out) (fun i out=>out.length≤i∧∀ t∈out,GT t)
  (fun i out hi hI=>.inl ⟨_,rfl,⟨by have:=zQx (ts.getD i default) out; omega,zWA (h _ (zx hi)) hI.2⟩,fun H K D=>by
   show (ziN ts ts.length i (zl9 0 out) out).ev H K D=_
   unfold ziN
   have ht:=h _ (zx hi)
   have hp:=zUc ht hI.2
   have hhas:=zTs (bs (txL (ts.getD i default).Factors)) out 0
   have hget:=zTn (bs (txL (ts.getD i default).Factors)) out 0
   simp only [Wy.ev_i,Wy.ev_k,Wy.ev_h,Wy.ev_bn,Wy.ev_d,tT,hi,ht.text]
   rw [hhas,hget,zT (by omega)]
   cases hpos:posA (bs (txL (ts.getD i default).Factors)) out with
   | none=>
    rw [hpos] at hp
    have hb:decide ((out.length+[ts.getD i default].length)*32≤zQ)=true:=by simp only [decide_eq_true_eq,List.length_singleton]; omega
    simp only [Option.isSome_none,cond_false,hb,cond_true]
    rw [zSY _ _ _ _ hpos,hp,zRr]
    simp
   | some j=>
    rw [hpos] at hp
    obtain ⟨p1,p2,p3⟩:=hp
    have hj:=hI.2 _ (zx p1)
    have hw:IntKind.i64.wrap ((out.getD j default).Coeff+(ts.getD i default).Coeff)=(out.getD j default).Coeff+(ts.getD i default).Coeff:=zUf ⟨by have:=hj.1.1; omega,hj.1.2⟩ ⟨by have:=ht.1.1; omega,ht.1.2⟩
    have e1:(0:Int)+(j:Int)=(j:Int):=by omega
    have e2:decide (j<out.length)=true:=decide_eq_true p1
    simp only [Option.isSome_some,Option.map_some,Option.getD_some,e1,cond_true,tT,e2,hw]
    rw [p3,zQW ⟨ztL (out.getD j default).Coeff (ts.getD i default).Coeff,(out.getD j default).Factors⟩ out j 0 rfl]
    rfl⟩)
  (fun out hI H K D=>by
   show (ziN ts ts.length ts.length (zl9 0 out) out).ev H K D=_
   unfold ziN
   simp only [Wy.ev_i,Wy.ev_k,tT,Nat.lt_irrefl]) n 0 [] (by omega) (by omega) ⟨by simp,fun t ht=>by cases ht⟩
 rw [List.drop_zero,zcw] at h2
 exact h2
theorem zUv:∀ (ts o:List Term),(∀ t∈ts,GT t)→(∀ t∈o,GT t)→∀ x∈ts.foldl (fun a t=>updA t a) o,GT x
 | [],o,_,ho=>ho
 | t::r,o,h,ho=>zUv r (updA t o) (fun x hx=>h x (by simp [hx])) (zWA (h t (by simp)) ho)
theorem zQY:∀ (ts o:List Term),(ts.foldl (fun a t=>updA t a) o).length≤o.length+ts.length
 | [],o=>by simp
 | t::r,o=>by
  have h1:=zQY r (updA t o)
  have h2:=zQx t o
  rw [List.foldl_cons,List.length_cons]; omega
theorem zOB (ts:List Term) (hl:ts.length≤1000000) (h:∀ t∈ts,GT t):zgO ts=(true,sumA [] ts):=by
 unfold zgO zqx
 have hL:=zWn ts hl h (ts.length+(Int.ofNat ts.length).toNat +Int.toNat (0:Int)+(0:Nat)+(0:Nat)+(1:Nat)) (by omega)
 have hL:zpt (ts.length+(Int.ofNat ts.length).toNat +Int.toNat (0:Int)+(0:Nat)+(0:Nat)+(1:Nat)) ts (Int.ofNat ts.length) 0 [] []=_:=hL
 rw [Wy.fin_bn,hL,cond_true]
 obtain ⟨hp,hd⟩:=zRs ts [] [] .nil .nil .nil
 have hs:=zQA ts [] .nil
 have hg:∀ x∈zGr ts,GT x:=zUv ts [] h fun x hx=>by cases hx
 have hlen:(zGr ts).length≤1000000:=by have:=zQY ts []; simp at this; exact Nat.le_trans this hl
 have e:∀ x∈zGr ts,∀ y,zbL x y=(true,cT x y):=fun x hx y=>zq0 (hg x hx).fine (by omega) y
 have ok:SortOK zbL (zGr ts):=by
  refine ⟨by omega,fun x hx y _=>by rw [e x hx],fun x hx=> ?_,fun x hx y hy z hz h1 h2=> ?_,fun x hx y hy z hz h1 h2=> ?_,fun x hx y hy h1 h2=> ?_⟩
  ·rw [e x hx]; have:=zDq (x:=x) (y:=x) rfl; simp only; omega
  ·rw [e x hx] at h1 ⊢; rw [e y hy] at h2
   exact zDv h1 h2
  ·rw [e x hx] at h1 ⊢; rw [e y hy] at h2
   simp only at h1 h2 ⊢
   have a1:=zzH x y
   have a2:=zzH y z
   have a3:=zzH x z
   have:=zC7 (zbC z.Factors) (zbC y.Factors) (zbC x.Factors) (show cT z y≤0 by omega) (show cT y x≤0 by omega)
   have:cT z x≤0:=this
   omega
  ·rw [e x hx] at h1; rw [e y hy] at h2
   simp only at h1 h2
   have a1:=zzH x y
   have hz:x.Factors=y.Factors:=zMP (by omega)
   by_cases hxy:x=y
   ·exact hxy
   ·exfalso
    -- two terms with the same factors are one
    have hdd:Dst (zGr ts):=hd
    have:=List.pairwise_iff_getElem.1 hdd
    obtain ⟨i,hi,ei⟩:=List.mem_iff_getElem.1 hx
    obtain ⟨j,hj,ej⟩:=List.mem_iff_getElem.1 hy
    rcases Nat.lt_trichotomy i j with hij | hij | hij
    ·exact this i j hi hj hij (by rw [ei,ej]; exact hz)
    ·subst hij; exact hxy (ei.symm.trans ej)
    ·exact this j i hj hi hij (by rw [ei,ej]; exact hz.symm)
 unfold zbz zSi
 simp only [Wy.fin_bn,Wy.fin_k,decide_eq_true ok,cond_true]
 congr 1
 refine (ok.unique (hp:(sumA [] ts).Perm (zGr ts)) ?_).symm
 refine hs.imp_of_mem fun {x y} hx hy hxy=> ?_
 rw [e y ((hp:(sumA [] ts).Perm (zGr ts)).mem_iff.1 hy)]
 have:=zzH x y
 simp only; omega
mutual
theorem zTR:∀ x:Atom,zeJ x≤zzy x
 | ⟨_,_,a,_,i,_,_⟩=>by
  rw [zeJ,zzy]
  have h1:=zNw a
  have h2:=zMi i
  omega
theorem zH6:∀ l:List Factor,zbM l≤zfT l
 | []=>by rw [zbM,zfT]; exact Nat.le_refl _
 | ⟨x,_⟩::r=>by
  rw [zbM,zfT]
  have h1:=zTR x
  have h2:=zH6 r
  omega
theorem zDd:∀ l:List Term,zP l≤zd8 l
 | []=>by rw [zP,zd8]; exact Nat.le_refl _
 | ⟨_,fs⟩::r=>by
  rw [zP,zd8]
  have h1:=zH6 fs
  have h2:=zDd r
  omega
theorem zNw:∀ l:List (List Term),zel l≤zmP l
 | []=>by rw [zel,zmP]; exact Nat.le_refl _
 | a::r=>by
  rw [zel,zmP]
  have h1:=zDd a
  have h2:=zNw r
  omega
theorem zMi:∀ l:List Weighted,zcI l≤l.length+zjm l
 | []=>by rw [zcI,zjm]; exact Nat.zero_le _
 | ⟨_,a⟩::r=>by
  rw [zcI,zjm]
  have h1:=zDd a
  have h2:=zMi r
  simp only [List.length_cons]
  omega
end
theorem zWG (d:Nat):zq (d+1) []:=⟨by simp,fun t ht=>by cases ht⟩
theorem zYj {d:Nat} {a:List Term} {e:Int} (h:zq d a) (hd:d≤100) (he:e=0∨a=[]):ztD a e a e=(true,true):=by
 unfold ztD zEb
 simp only [Wy.fin_i,Wy.fin_bn,Wy.fin_k,zBD h hd,beqd,decide_true,cond_true]
 rcases he with rfl | rfl
 ·simp
 ·cases decide (e=0) <;>simp
end Go.Proofs.YtnolcogncjijpaaGreatDoor
end
