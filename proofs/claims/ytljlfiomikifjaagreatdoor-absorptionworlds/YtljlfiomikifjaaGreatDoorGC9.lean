/- Texts of this claim, joined (the program, its functions in plain words, and what they compute). -/
import Derived.Test.YtljlfiomikifjaaGreatDoorGC8
set_option autoImplicit false
set_option linter.unusedVariables false
set_option linter.unusedSectionVars false
set_option linter.unusedSimpArgs false
set_option maxRecDepth 1000000
set_option maxHeartbeats 0
noncomputable section
namespace Go.Proofs.YtljlfiomikifjaaGreatDoor
open Go Go.Ab
def txV (v:Value):List UInt8:=if v.Kind=0 then zli v.Int else if v.Kind=1 then 39::(v.Text.data.toList.flatMap esc++[39]) else if v.Int=1 then [84,82,85,69] else [70,65,76,83,69]
def txR (r:RowID):List UInt8:=116::(zli r.Table++46::zli r.Seq)
def fnT (f:Int):List UInt8:=if f=0 then [67,79,85,78,84] else if f=1 then [83,85,77] else if f=2 then [77,73,78] else [77,65,88]
def opT (o:Int):List UInt8:=if o=5 then [61] else if o=6 then [60,62] else if o=7 then [60] else if o=8 then [60,61] else if o=9 then [62] else [62,61]
def z9j (ts:List (List UInt8)):List UInt8:=if ts=[] then [48] else zrJ ts [32,43,32]
def zbe0 (c:Int) (fs:List (List UInt8)):List UInt8:=if fs=[] then zli c else if c=1 then zrJ fs [42] else zli c++42::zrJ fs [42]
def zbeg (x:List UInt8) (e:Int):List UInt8:=if e=1 then x else x++94::zli e
def zgg (k:Int) (r:RowID) (xs:List (List UInt8)) (f:Int) (is:List (List UInt8)) (o:Int) (b:Value):List UInt8:=
 if k=0 then txR r
 else if k=1 then [109,111,110,117,115,91]++(xs.getD 0 []++([44,32]++(xs.getD 1 []++[93])))
 else if k=2 then [100,101,108,116,97,91]++(xs.getD 0 []++[93])
 else if k=3 then [97,98,115,101,110,116,91]++(xs.getD 0 []++[93])
 else [116,101,115,116,91]++(fnT f++([123]++(zrJ is [59,32]++([125,32]++(opT o++([32]++(txV b++[93])))))))
mutual
def txA:At->List UInt8
 | ⟨k,r,a,f,i,o,b⟩=>zgg k r (zbgm a) f (zbfG i) o b
def zWE:yD->List (List UInt8)
 | []=>[]
 | ⟨x,e⟩::l=>zbeg (txA x) e::zWE l
def z0R:yC->List (List UInt8)
 | []=>[]
 | ⟨c,fs⟩::l=>zbe0 c (zWE fs)::z0R l
def zbgm:yA->List (List UInt8)
 | []=>[]
 | a::l=>z9j (z0R a)::zbgm l
def zbfG:yE->List (List UInt8)
 | []=>[]
 | ⟨v,a⟩::l=>(txV v++([58,32]++z9j (z0R a)))::zbfG l
end
def txF (f:Fc):List UInt8:=zbeg (txA f.At) f.Exp
def txT (t:Term):List UInt8:=zbe0 t.Cf (zWE t.Fs)
def txN (a:yC):List UInt8:=z9j (z0R a)
def txI (w:Wd):List UInt8:=txV w.Value++([58,32]++txN w.Ann)
theorem zPa:∀ l,zWE l=l.map txF
 | []=>by rw [zWE]; rfl
 | x::r=>by rw [zWE,zPa r]; rfl
theorem zbft:∀ l,z0R l=l.map txT
 | []=>by rw [z0R]; rfl
 | x::r=>by rw [z0R,zbft r]; rfl
theorem zDM:∀ l,zbgm l=l.map txN
 | []=>by rw [zbgm]; rfl
 | x::r=>by rw [zbgm,zDM r]; rfl
theorem z7u:∀ l,zbfG l=l.map txI
 | []=>by rw [zbfG]; rfl
 | x::r=>by rw [zbfG,z7u r]; rfl
def txL (l:yD):List UInt8:=zrJ (zWE l) [42]
theorem zvH {n:Int} (h:wf3 n): -9223372036854775808<=n/\n<=9223372036854775807:=by
 have h:(Lit.int .i64 n).wf=true:=h;have:IntKind.i64.min<=n/\n<=IntKind.i64.max:=by simpa [Lit.wf] using h
 exact ⟨this.1,this.2⟩
def rng (n:Int):Prop:= -9223372036854775808<=n/\n<=9223372036854775807
instance (n:Int):Decidable (rng n):=by unfold rng; infer_instance
theorem zbgK {m:Nat} {x:At} (h:zeG (zbR m) x=true) (hi:x.Items.length<=1024):zkv x<=4195328:=by
 rw [ziU];cases zev.1 h with
 | var r h=>rw [zmY,zlt]; omega
 | mon a b ha hb _ _ _=>
  have h1:=(zgB ha).2.1; have h2:=(zgB hb).2.1;simp only [zh2,zmY,zlt]; omega
 | del a ha _ _ _=>
  have h1:=(zgB ha).2.1;simp only [zh2,zmY,zlt]; omega
 | abs a ha _ _=>
  have h1:=(zgB ha).2.1;simp only [zh2,zmY,zlt]; omega
 | tst f l o b hl hv hs hf=>
  have h1:∀ l:yE,(∀ w∈l,zX w.Ann<=4096)->zdU l<=l.length*4097:=λl=>by
   induction l with
   | nil=>intro _; rw [zlt]; omega
   | cons w r ih=>
    intro h;have:=h w (by simp)
    have:=ih λw hw=>h w (by simp [hw])
    rw [zj4,qf,Nat.add_mul]; omega
  have:=h1 l λw hw=>(zgB (hv w hw).1).2.1
  have:=Nat.mul_le_mul hi (Nat.le_refl 4097);simp only [zmY] at this ⊢; omega
section
variable (gA:At->Bool×ByteArray) (gF:yD->Bool×ByteArray) (gT:yC->Bool×ByteArray)
end
def hd (S:List UInt8) (u:List UInt8):Prop:=∀ c,u.head? =some c->c∈S
theorem zqv {S:List UInt8} {c:UInt8} {u:List UInt8} (h:c∈S):hd S (c::u):=λd hd=>by
 simp only [List.head?_cons,qa] at hd; subst hd; exact h
theorem hd.mono {S T:List UInt8} {u:List UInt8} (h:hd S u) (hs:∀ c∈S,c∈T):hd T u:=λc hc=>hs c (h c hc)
theorem hd.noDig {S:List UInt8} {u:List UInt8} (h:hd S u) (hs:∀ c∈S,zsG c=false):noDig u:=λc hc=>hs c (h c hc)
theorem hd.ne {S:List UInt8} {u:List UInt8} (h:hd S u) {c:UInt8} (hs:c∉S):u.head? ≠some c:=λe=>hs (h c e)
theorem hd.cons_ne {S:List UInt8} {u:List UInt8} {c:UInt8} (h:hd S (c::u)) (hs:c∉S):False:=hs (h c rfl)
theorem zQE {α:Type} (tx:α->List UInt8) (S0:List UInt8) (s0:UInt8) (sr:List UInt8) (P:α->Prop) (hS:s0∉S0) (hR:∀ x y,P x->P y->∀ u v,hd (s0::S0) u->hd (s0::S0) v->tx x++u=tx y++v->x=y/\u=v):
  ∀ l l':List α,l≠[]->l'≠[]->(∀ x∈l,P x)->(∀ x∈l',P x)->∀ u v,hd S0 u->hd S0 v->zrJ (l.map tx) (s0::sr)++u=zrJ (l'.map tx) (s0::sr)++v->l=l'/\u=v
 | [],_,h,_,_,_,_,_,_,_,_=>absurd rfl h
 | _::_,[],_,h,_,_,_,_,_,_,_=>absurd rfl h
 | [x],[y],_,_,hx,hy,u,v,hu,hv,h=>by
  have mono:∀ c∈S0,c∈s0::S0:=λc hc=>List.mem_cons_of_mem _ hc
  obtain ⟨h1,h2⟩:=hR x y (hx x (by simp)) (hy y (by simp)) u v (hu.mono mono) (hv.mono mono) h
  exact ⟨by rw [h1],h2⟩
 | [x],y::y'::r',_,_,hx,hy,u,v,hu,hv,h=>by
  have mono:∀ c∈S0,c∈s0::S0:=λc hc=>List.mem_cons_of_mem _ hc
  simp only [List.map,zrJ,List.append_assoc] at h;obtain ⟨h1,h2⟩:=hR x y (hx x (by simp)) (hy y (by simp)) u _ (hu.mono mono) (zqv (by simp)) h
  rw [h2] at hu;exact (hu.cons_ne hS).elim
 | x::x'::r,[y],_,_,hx,hy,u,v,hu,hv,h=>by
  have mono:∀ c∈S0,c∈s0::S0:=λc hc=>List.mem_cons_of_mem _ hc
  simp only [List.map,zrJ,List.append_assoc] at h;obtain ⟨h1,h2⟩:=hR x y (hx x (by simp)) (hy y (by simp)) _ v (zqv (by simp)) (hv.mono mono) h
  rw [<- h2] at hv;exact (hv.cons_ne hS).elim
 | x::x'::r,y::y'::r',_,_,hx,hy,u,v,hu,hv,h=>by
  have h:zrJ (((x::x'::r)).map tx) (s0::sr)++u=zrJ (((y::y'::r')).map tx) (s0::sr)++v:=h;simp only [List.map,zrJ,List.append_assoc] at h;obtain ⟨h1,h2⟩:=hR x y (hx x (by simp)) (hy y (by simp)) _ _ (zqv (by simp)) (zqv (by simp)) h
  have h3:=(List.append_right_inj sr).1 (List.cons.inj h2).2;obtain ⟨h4,h5⟩:=zQE tx S0 s0 sr P hS hR (x'::r) (y'::r') (by simp) (by simp) (λz hz=>hx z (List.mem_cons_of_mem _ hz)) (λz hz=>hy z (List.mem_cons_of_mem _ hz)) u v hu hv h3
  exact ⟨by rw [h1,h4],h5⟩
theorem zbd4 {t:ByteArray} (h:t.size=0):t=ByteArray.mk #[]:=zII (by
 have:t.data.toList.length=0:=by rw [Array.length_toList]; exact h
 rw [List.length_eq_zero_iff.1 this])
theorem zbeR {x y:Value} (hx:zzp x=true) (hy:zzp y=true) (rx:rng x.Int) (ry:rng y.Int) {u v:List UInt8} (hu:hd [58,93] u) (hv:hd [58,93] v) (h:txV x++u=txV y++v):x=y/\u=v:=by
 have d1:∀ c∈([58,93]:List UInt8),zsG c=false:=by decide
 obtain ⟨cx,sx,ex,dx⟩:=zbcV rx.1 rx.2;obtain ⟨cy,sy,ey,dy⟩:=zbcV ry.1 ry.2
 have nd:∀ c:UInt8,c=45\/zsG c=true->c≠39/\c≠84/\c≠70:=λc hc=>by
  refine ⟨?_, ?_, ?_⟩ <;>(intro e; subst e; revert hc; decide)
 obtain ⟨kx,ix,tx⟩:=x;obtain ⟨ky,iy,ty⟩:=y;simp only [zzp,Bool.or_eq_true,qc,beq_iff_eq,qe] at hx hy;simp only at rx ry ex ey;rcases hx with (⟨rfl,hx⟩ | ⟨⟨rfl,rfl⟩,hx⟩) | ⟨⟨rfl,hx⟩,hx2⟩
 ·have:=zbd4 hx; subst this;rcases hy with (⟨rfl,hy⟩ | ⟨⟨rfl,rfl⟩,hy⟩) | ⟨⟨rfl,hy⟩,hy2⟩
  ·have:=zbd4 hy; subst this;simp only [txV,if_true] at h;obtain ⟨h1,h2⟩:=zw7 rx ry (hu.noDig d1) (hv.noDig d1) h;exact ⟨by rw [h1],h2⟩
  ·simp only [txV,if_true,show ¬ (1:Int)=0 by decide,if_false,ex,List.cons_append,qj] at h
   exact absurd h.1 (nd cx dx).1
  ·rcases hy2 with rfl | rfl
   ·simp only [txV,if_true,show ¬ (2:Int)=0 by decide,show ¬ (2:Int)=1 by decide,show ¬ (0:Int)=1 by decide,if_false,ex,List.cons_append,qj] at h
    exact absurd h.1 (nd cx dx).2.2
   ·simp only [txV,if_true,show ¬ (2:Int)=0 by decide,show ¬ (2:Int)=1 by decide,if_false,ex,List.cons_append,qj] at h
    exact absurd h.1 (nd cx dx).2.1
 ·rcases hy with (⟨rfl,hy⟩ | ⟨⟨rfl,rfl⟩,hy⟩) | ⟨⟨rfl,hy⟩,hy2⟩
  ·simp only [txV,if_true,show ¬ (1:Int)=0 by decide,if_false,ey,List.cons_append,qj] at h
   exact absurd h.1.symm (nd cy dy).1
  ·simp only [txV,if_true,show ¬ (1:Int)=0 by decide,if_false,List.cons_append,qj,true_and,List.append_assoc,List.nil_append] at h
   obtain ⟨h1,h2⟩:=z6F _ _ u v (hu.ne (by decide)) (hv.ne (by decide)) h
   exact ⟨by rw [zII h1],h2⟩
  ·rcases hy2 with rfl | rfl <;>simp [txV] at h
 ·have:=zbd4 hx; subst this;rcases hy with (⟨rfl,hy⟩ | ⟨⟨rfl,rfl⟩,hy⟩) | ⟨⟨rfl,hy⟩,hy2⟩
  ·rcases hx2 with rfl | rfl
   ·simp only [txV,if_true,show ¬ (2:Int)=0 by decide,show ¬ (2:Int)=1 by decide,show ¬ (0:Int)=1 by decide,if_false,ey,List.cons_append,qj] at h
    exact absurd h.1.symm (nd cy dy).2.2
   ·simp only [txV,if_true,show ¬ (2:Int)=0 by decide,show ¬ (2:Int)=1 by decide,if_false,ey,List.cons_append,qj] at h
    exact absurd h.1.symm (nd cy dy).2.1
  ·rcases hx2 with rfl | rfl <;>simp [txV] at h
  ·have:=zbd4 hy; subst this;rcases hx2 with rfl | rfl <;>rcases hy2 with rfl | rfl <;>simp [txV] at h
   ·exact ⟨rfl,h⟩
   ·exact ⟨rfl,h⟩
theorem zblA {f g:Int} (hf:0<=f/\f<=3) (hg:0<=g/\g<=3) {u v:List UInt8} (h:fnT f++123::u=fnT g++123::v):f=g/\u=v:=by
 have c1:f=0\/f=1\/f=2\/f=3:=by omega
 have c2:g=0\/g=1\/g=2\/g=3:=by omega
 rcases c1 with rfl | rfl | rfl | rfl <;>rcases c2 with rfl | rfl | rfl | rfl <;>simp [fnT] at h <;>exact ⟨rfl,h⟩
theorem zblp {f g:Int} (hf:5<=f/\f<=10) (hg:5<=g/\g<=10) {u v:List UInt8} (h:opT f++32::u=opT g++32::v):f=g/\u=v:=by
 have c1:f=5\/f=6\/f=7\/f=8\/f=9\/f=10:=by omega
 have c2:g=5\/g=6\/g=7\/g=8\/g=9\/g=10:=by omega
 rcases c1 with rfl | rfl | rfl | rfl | rfl | rfl <;>rcases c2 with rfl | rfl | rfl | rfl | rfl | rfl <;>simp [opT] at h <;>exact ⟨rfl,h⟩
def SN:List UInt8:=[93,44,59,125]
def ST:List UInt8:=32::SN
def SF:List UInt8:=42::ST
def SA:List UInt8:=94::SF
theorem z8g:∀ c∈SA,zsG c=false:=by decide
theorem zboz:∀ c∈ST,c∈SA:=by decide
theorem zbap:∀ c∈SF,c∈SA:=by decide
def RdN (V:yC->Bool):Prop:=∀ a b,V a=true->V b=true->zhV a->zhV b->∀ u v,hd SN u->hd SN v->txN a++u=txN b++v->a=b/\u=v
def RdA (V:yC->Bool):Prop:=∀ x y,zeG V x=true->zeG V y=true->zjk x->zjk y->∀ u v,hd SA u->hd SA v->txA x++u=txA y++v->x=y/\u=v
theorem zbkE {V:yC->Bool} {x:At} (h:zeG V x=true):∃ c r,txA x=c::r/\zsG c=false:=by
 cases zev.1 h with
 | var r h=>rw [txA]; exact ⟨116,_,rfl,rfl⟩
 | mon a b _ _ _ _ _=>rw [txA]; exact ⟨109,_,rfl,rfl⟩
 | del a _ _ _ _=>rw [txA]; exact ⟨100,_,rfl,rfl⟩
 | abs a _ _ _=>rw [txA]; exact ⟨97,_,rfl,rfl⟩
 | tst f l o b _ _ _ _=>rw [txA]; exact ⟨116,_,rfl,rfl⟩
theorem zbj9 {V:yC->Bool} (hV:RdN V):RdA V:=by
 intro x y hx hy wx wy u v hu hv h;have Wx:=zBF wx;have Wy:=zBF wy;have k0:¬ (1:Int)=0:=by decide
 have c44:∀ z,hd SN (44::z):=λz=>zqv (by decide)
 have c93:∀ z,hd SN (93::z):=λz=>zqv (by decide)
 have tE:∀ (r:RowID),zBH r=true->rng r.Table->∀ w z,zli r.Table++w≠101::z:=λr hr hg w z e=>by
  simp only [zBH,qc,qe] at hr;obtain ⟨d1,d2⟩:=zbjj (show 0<=r.Table by omega) hg.2
  cases hl:zli r.Table with
  | nil=>exact d2 hl
  | cons c s=>
   rw [hl] at e d1;simp only [List.cons_append,qj] at e;rw [List.all_cons,e.1] at d1;revert d1; simp [zsG]
 cases zev.1 hx with
 | var r hr=>
  have rr:=Wx.2.2.2.2.1;simp only at rr;cases zev.1 hy with
  | var r' hr'=>
   have rr':=Wy.2.2.2.2.1;simp only at rr';rw [txA,txA] at h;simp only [zgg,if_true,txR,List.cons_append,qj,true_and,List.append_assoc] at h;obtain ⟨h1,h2⟩:=zw7 (zvH rr.1) (zvH rr'.1) (λc hc=>by simp only [List.head?_cons,qa] at hc; subst hc; rfl) (λc hc=>by simp only [List.head?_cons,qa] at hc; subst hc; rfl) h
   simp only [qj,true_and] at h2;obtain ⟨h3,h4⟩:=zw7 (zvH rr.2) (zvH rr'.2) (hu.noDig z8g) (hv.noDig z8g) h2;obtain ⟨t,s⟩:=r; obtain ⟨t',s'⟩:=r';simp only at h1 h3;exact ⟨by rw [h1,h3],h4⟩
  | tst f l o b _ _ _ _=>
   rw [txA,txA] at h;simp only [zgg,if_true,txR,show ¬ (4:Int)=0 by decide,show ¬ (4:Int)=1 by decide,show ¬ (4:Int)=2 by decide,show ¬ (4:Int)=3 by decide,if_false,List.cons_append,qj,true_and,List.append_assoc] at h
   exact absurd h (tE r hr (zvH rr.1) _ _)
  | mon a b _ _ _ _ _=>rw [txA,txA] at h; simp [zgg,txR] at h
  | del a _ _ _ _=>rw [txA,txA] at h; simp [zgg,txR] at h
  | abs a _ _ _=>rw [txA,txA] at h; simp [zgg,txR] at h
 | mon a b ha hb _ _ _=>
  cases zev.1 hy with
  | mon a' b' ha' hb' _ _ _=>
   rw [txA,txA,zDM,zDM] at h;simp only [zgg,if_true,k0,if_false,List.map,List.getD_cons_zero,List.getD_cons_succ,List.cons_append,qj,true_and,List.append_assoc,List.nil_append] at h;have wa:=λz hz=>(zlc Wx.1.1 z hz).1
   have wb:=λz hz=>(zlc Wy.1.1 z hz).1
   obtain ⟨h1,h2⟩:=hV a a' ha ha' (wa a (by simp)) (wb a' (by simp)) _ _ (c44 _) (c44 _) h
   simp only [qj,true_and] at h2;obtain ⟨h3,h4⟩:=hV b b' hb hb' (wa b (by simp)) (wb b' (by simp)) _ _ (c93 _) (c93 _) h2
   simp only [qj,true_and] at h4;exact ⟨by rw [h1,h3],h4⟩
  | var r h=>rw [txA,txA] at h; simp [zgg,txR] at h
  | del a _ _ _ _=>rw [txA,txA] at h; simp [zgg,txR] at h
  | abs a _ _ _=>rw [txA,txA] at h; simp [zgg,txR] at h
  | tst f l o b _ _ _ _=>rw [txA,txA] at h; simp [zgg,txR] at h
 | del a ha _ _ _=>
  cases zev.1 hy with
  | del a' ha' _ _ _=>
   rw [txA,txA,zDM,zDM] at h;simp only [zgg,if_true,show ¬ (2:Int)=0 by decide,show ¬ (2:Int)=1 by decide,if_false,List.map,List.getD_cons_zero,List.cons_append,qj,true_and,List.append_assoc,List.nil_append] at h
   have wa:=λz hz=>(zlc Wx.1.1 z hz).1
   have wb:=λz hz=>(zlc Wy.1.1 z hz).1
   obtain ⟨h1,h2⟩:=hV a a' ha ha' (wa a (by simp)) (wb a' (by simp)) _ _ (c93 _) (c93 _) h
   simp only [qj,true_and] at h2;exact ⟨by rw [h1],h2⟩
  | var r h=>rw [txA,txA] at h; simp [zgg,txR] at h
  | mon a b _ _ _ _ _=>rw [txA,txA] at h; simp [zgg,txR] at h
  | abs a _ _ _=>rw [txA,txA] at h; simp [zgg,txR] at h
  | tst f l o b _ _ _ _=>rw [txA,txA] at h; simp [zgg,txR] at h
 | abs a ha _ _=>
  cases zev.1 hy with
  | abs a' ha' _ _=>
   rw [txA,txA,zDM,zDM] at h;simp only [zgg,if_true,show ¬ (3:Int)=0 by decide,show ¬ (3:Int)=1 by decide,show ¬ (3:Int)=2 by decide,if_false,List.map,List.getD_cons_zero,List.cons_append,qj,true_and,List.append_assoc,List.nil_append] at h
   have wa:=λz hz=>(zlc Wx.1.1 z hz).1
   have wb:=λz hz=>(zlc Wy.1.1 z hz).1
   obtain ⟨h1,h2⟩:=hV a a' ha ha' (wa a (by simp)) (wb a' (by simp)) _ _ (c93 _) (c93 _) h
   simp only [qj,true_and] at h2;exact ⟨by rw [h1],h2⟩
  | var r h=>rw [txA,txA] at h; simp [zgg,txR] at h
  | mon a b _ _ _ _ _=>rw [txA,txA] at h; simp [zgg,txR] at h
  | del a _ _ _ _=>rw [txA,txA] at h; simp [zgg,txR] at h
  | tst f l o b _ _ _ _=>rw [txA,txA] at h; simp [zgg,txR] at h
 | tst f l o b hl hi hs hf=>
  cases zev.1 hy with
  | tst f' l' o' b' hl' hi' hs' hf'=>
   obtain ⟨⟨f0,f3,o5,o10⟩,hb,hit⟩:=zBG hf;obtain ⟨⟨f0',f3',o5',o10'⟩,hb',hit'⟩:=zBG hf';have wl:=zmV Wx.2.1.1;have wl':=zmV Wy.2.1.1;rw [txA,txA,z7u,z7u] at h;simp only [zgg,show ¬ (4:Int)=0 by decide,show ¬ (4:Int)=1 by decide,show ¬ (4:Int)=2 by decide,show ¬ (4:Int)=3 by decide,if_false,List.cons_append,qj,true_and,List.append_assoc,List.nil_append] at h
   obtain ⟨h1,h2⟩:=zblA ⟨f0,f3⟩ ⟨f0',f3'⟩ h
   obtain ⟨h3,h4⟩:=zQE txI [125] 59 [32] (λw=>(V w.Ann=true/\zhV w.Ann)/\zzp w.Value=true/\rng w.Value.Int) (by decide) (λx y px py u v hu hv e=>by
    simp only [txI,List.append_assoc,List.cons_append,List.nil_append] at e;obtain ⟨e1,e2⟩:=zbeR px.2.1 py.2.1 px.2.2 py.2.2 (zqv (by decide)) (zqv (by decide)) e
    simp only [qj,true_and] at e2;obtain ⟨e3,e4⟩:=hV _ _ px.1.1 py.1.1 px.1.2 py.1.2 u v (hu.mono (by decide)) (hv.mono (by decide)) e2
    obtain ⟨vx,ax⟩:=x; obtain ⟨vy,ay⟩:=y;simp only at e1 e3;exact ⟨by rw [e1,e3],e4⟩) l l' hl hl' (λw hw=>⟨⟨(hi w hw).1,(wl w hw).2.1⟩,(hit w hw).1,zvH (wl w hw).1.2.1⟩) (λw hw=>⟨⟨(hi' w hw).1,(wl' w hw).2.1⟩,(hit' w hw).1,zvH (wl' w hw).1.2.1⟩) _ _ (zqv (by decide)) (zqv (by decide)) h2
   simp only [qj,true_and] at h4;obtain ⟨h5,h6⟩:=zblp ⟨o5,o10⟩ ⟨o5',o10'⟩ h4;obtain ⟨h7,h8⟩:=zbeR hb hb' (zvH Wx.2.2.1.2.1) (zvH Wy.2.2.1.2.1) (zqv (by decide)) (zqv (by decide)) h6
   simp only [qj,true_and] at h8;exact ⟨by rw [h1,h3,h5,h7],h8⟩
  | var r hr=>
   have rr:=Wy.2.2.2.2.1;simp only at rr;rw [txA,txA] at h;simp only [zgg,if_true,txR,show ¬ (4:Int)=0 by decide,show ¬ (4:Int)=1 by decide,show ¬ (4:Int)=2 by decide,show ¬ (4:Int)=3 by decide,if_false,List.cons_append,qj,true_and,List.append_assoc] at h
   exact absurd h.symm (tE r hr (zvH rr.1) _ _)
  | mon a b _ _ _ _ _=>rw [txA,txA] at h; simp [zgg,txR] at h
  | del a _ _ _ _=>rw [txA,txA] at h; simp [zgg,txR] at h
  | abs a _ _ _=>rw [txA,txA] at h; simp [zgg,txR] at h
def gF (V:yC->Bool) (f:Fc):Prop:=zeG V f.At=true/\zjk f.At/\rng f.Exp
theorem zbni {V:yC->Bool} (hA:RdA V) {f g:Fc} (hf:gF V f) (hg:gF V g) {u v:List UInt8} (hu:hd SF u) (hv:hd SF v) (h:txF f++u=txF g++v):f=g/\u=v:=by
 obtain ⟨x,e⟩:=f; obtain ⟨y,e'⟩:=g;obtain ⟨a1,a2,a3⟩:=hf; obtain ⟨b1,b2,b3⟩:=hg;simp only at a1 a2 a3 b1 b2 b3;have c94:∀ z,hd SA (94::z):=λz=>zqv (by decide)
 have n94:(94:UInt8)∉SF:=by decide
 have dg:∀ c∈SF,zsG c=false:=λc hc=>z8g c (zbap c hc)
 unfold txF zbeg at h;simp only at h;by_cases h1:e=1
 ·by_cases h2:e'=1
  ·rw [if_pos h1,if_pos h2] at h;obtain ⟨q1,q2⟩:=hA x y a1 b1 a2 b2 u v (hu.mono zbap) (hv.mono zbap) h;exact ⟨by rw [q1,h1,h2],q2⟩
  ·rw [if_pos h1,if_neg h2,List.append_assoc] at h;obtain ⟨q1,q2⟩:=hA x y a1 b1 a2 b2 u _ (hu.mono zbap) (c94 _) h;rw [q2] at hu;exact (hu.cons_ne n94).elim
 ·by_cases h2:e'=1
  ·rw [if_neg h1,if_pos h2,List.append_assoc] at h;obtain ⟨q1,q2⟩:=hA x y a1 b1 a2 b2 _ v (c94 _) (hv.mono zbap) h;rw [<- q2] at hv;exact (hv.cons_ne n94).elim
  ·rw [if_neg h1,if_neg h2,List.append_assoc,List.append_assoc] at h;obtain ⟨q1,q2⟩:=hA x y a1 b1 a2 b2 _ _ (c94 _) (c94 _) h;simp only [List.cons_append,qj,true_and] at q2;obtain ⟨q3,q4⟩:=zw7 a3 b3 (hu.noDig dg) (hv.noDig dg) q2;exact ⟨by rw [q1,q3],q4⟩
theorem zbbd {V:yC->Bool} (hA:RdA V) {l l':yD} (hl:l≠[]) (hl':l'≠[]) (h1:∀ f∈l,gF V f) (h2:∀ f∈l',gF V f) {u v:List UInt8} (hu:hd ST u) (hv:hd ST v) (h:txL l++u=txL l'++v):l=l'/\u=v:=by
 unfold txL at h;rw [zPa,zPa] at h;exact zQE txF ST 42 [] (gF V) (by decide) (λx y px py u v hu hv e=>zbni hA px py hu hv e) l l' hl hl' h1 h2 u v hu hv h
theorem zHK {V:yC->Bool} {l:yD} (hl:l≠[]) (h:∀ f∈l,gF V f):∃ c r,txL l=c::r/\zsG c=false:=by
 cases l with
 | nil=>exact absurd rfl hl
 | cons f r=>
  obtain ⟨c,s,e,hc⟩:=zbkE (h f (by simp)).1
  have:∃ s',txF f=c::s':=by
   unfold txF zbeg;split
   ·exact ⟨s,e⟩
   ·exact ⟨_,by rw [e]; rfl⟩
  obtain ⟨s',e'⟩:=this;unfold txL;rw [zPa];cases r with
  | nil=>exact ⟨c,s',by simp only [List.map,zrJ]; exact e',hc⟩
  | cons g r=>exact ⟨c,_,by simp only [List.map,zrJ]; rw [e']; rfl,hc⟩
def gT (V:yC->Bool) (t:Term):Prop:=(1<=t.Cf/\t.Cf<=9223372036854775807)/\∀ f∈t.Fs,gF V f
theorem zbbL {n:Int} (h:1<=n) (h2:n<=9223372036854775807):∃ c r,zli n=c::r/\zsG c=true/\c≠48:=by
 have e:zli n=Lib.decDigits n.toNat:=by rw [z6r (by omega) h2,Lib.itoa,if_neg (by omega)]
 obtain ⟨a1,a2,a3,a4⟩:=z23 n.toNat n.toNat (Nat.le_refl _);rw [e];cases hl:Lib.decDigits n.toNat with
 | nil=>exact absurd hl a3
 | cons c r=>
  rw [hl] at a1 a4;rw [List.all_cons,qc] at a1;exact ⟨c,r,rfl,a1.1,λe=>a4 (by omega) (by rw [e]; rfl)⟩
theorem zbfk {l:yD}:zWE l=[]↔l=[]:=by rw [zPa,List.map_eq_nil_iff]
theorem zbej (t:Term):txT t=if t.Fs=[] then zli t.Cf else if t.Cf=1 then txL t.Fs else zli t.Cf++42::txL t.Fs:=by
 unfold txT zbe0;by_cases h:t.Fs=[]
 ·rw [if_pos (zbfk.2 h),if_pos h]
 ·rw [if_neg (λe=>h (zbfk.1 e)),if_neg h]; rfl
theorem zbnX {V:yC->Bool} (hA:RdA V) {s t:Term} (hs:gT V s) (ht:gT V t) {u v:List UInt8} (hu:hd ST u) (hv:hd ST v) (h:txT s++u=txT t++v):s=t/\u=v:=by
 obtain ⟨c,l⟩:=s; obtain ⟨c',l'⟩:=t;obtain ⟨⟨c1,c2⟩,h1⟩:=hs; obtain ⟨⟨c1',c2'⟩,h2⟩:=ht;simp only at c1 c2 h1 c1' c2' h2;have dg:∀ c∈ST,zsG c=false:=λc hc=>z8g c (zboz c hc)
 have n42:(42:UInt8)∉ST:=by decide
 have d42:∀ z,noDig (42::z):=λz c hc=>by simp only [List.head?_cons,qa] at hc; subst hc; rfl
 have rc:rng c:=⟨by omega,c2⟩
 have rc':rng c':=⟨by omega,c2'⟩
 obtain ⟨d,r,e,hd,_⟩:=zbbL c1 c2;obtain ⟨d',r',e',hd',_⟩:=zbbL c1' c2';rw [zbej,zbej] at h;simp only at h;by_cases l0:l=[]
 ·rw [if_pos l0] at h;by_cases l0':l'=[]
  ·rw [if_pos l0'] at h;obtain ⟨q1,q2⟩:=zw7 rc rc' (hu.noDig dg) (hv.noDig dg) h;exact ⟨by rw [q1,l0,l0'],q2⟩
  ·rw [if_neg l0'] at h;by_cases k':c'=1
   ·rw [if_pos k'] at h;obtain ⟨d2,r2,e2,hd2⟩:=zHK l0' h2;rw [e,e2] at h;simp only [List.cons_append,qj] at h;rw [h.1,hd2] at hd; cases hd
   ·rw [if_neg k',List.append_assoc] at h;obtain ⟨q1,q2⟩:=zw7 rc rc' (hu.noDig dg) (d42 _) h;rw [q2] at hu;exact (hu.cons_ne n42).elim
 ·rw [if_neg l0] at h;by_cases k:c=1
  ·rw [if_pos k] at h;obtain ⟨d2,r2,e2,hd2⟩:=zHK l0 h1;by_cases l0':l'=[]
   ·rw [if_pos l0',e2,e'] at h;simp only [List.cons_append,qj] at h;rw [<- h.1,hd2] at hd'; cases hd'
   ·rw [if_neg l0'] at h;by_cases k':c'=1
    ·rw [if_pos k'] at h;obtain ⟨q1,q2⟩:=zbbd hA l0 l0' h1 h2 hu hv h;exact ⟨by rw [q1,k,k'],q2⟩
    ·rw [if_neg k',e2,e'] at h;simp only [List.cons_append,qj] at h;rw [<- h.1,hd2] at hd'; cases hd'
  ·rw [if_neg k,List.append_assoc] at h;by_cases l0':l'=[]
   ·rw [if_pos l0'] at h;obtain ⟨q1,q2⟩:=zw7 rc rc' (d42 _) (hv.noDig dg) h;rw [<- q2] at hv;exact (hv.cons_ne n42).elim
   ·rw [if_neg l0'] at h;by_cases k':c'=1
    ·rw [if_pos k'] at h;obtain ⟨d2,r2,e2,hd2⟩:=zHK l0' h2;rw [e,e2] at h;simp only [List.cons_append,qj] at h;rw [h.1,hd2] at hd; cases hd
    ·rw [if_neg k',List.append_assoc] at h;obtain ⟨q1,q2⟩:=zw7 rc rc' (d42 _) (d42 _) h;simp only [List.cons_append,qj,true_and] at q2;obtain ⟨q3,q4⟩:=zbbd hA l0 l0' h1 h2 hu hv q2;exact ⟨by rw [q1,q3],q4⟩
theorem zblB {V:yC->Bool} {t:Term} (ht:gT V t):∃ c r,txT t=c::r/\c≠48:=by
 obtain ⟨⟨c1,c2⟩,h1⟩:=ht;obtain ⟨d,r,e,hd,h48⟩:=zbbL c1 c2;rw [zbej];by_cases l0:t.Fs=[]
 ·rw [if_pos l0]; exact ⟨d,r,e,h48⟩
 ·rw [if_neg l0];split
  ·obtain ⟨d2,r2,e2,hd2⟩:=zHK l0 h1;exact ⟨d2,r2,e2,λe=>by rw [e] at hd2; revert hd2; decide⟩
  ·exact ⟨d,_,by rw [e]; rfl,h48⟩
theorem zbns {V:yC->Bool} (hA:RdA V) {a b:yC} (ha:∀ t∈a,gT V t) (hb:∀ t∈b,gT V t) {u v:List UInt8} (hu:hd SN u) (hv:hd SN v) (h:txN a++u=txN b++v):a=b/\u=v:=by
 have en:∀ z:yC,z≠[]->txN z=zrJ (z.map txT) [32,43,32]:=λz hz=>by
  unfold txN z9j; rw [zbft,if_neg (by simpa using hz)]
 have e0:txN []=[48]:=by unfold txN z9j; rw [z0R,if_pos rfl]
 have h48:∀ z:yC,z≠[]->(∀ t∈z,gT V t)->∃ c r,txN z=c::r/\c≠48:=λz hz hg=>by
  rw [en z hz];cases z with
  | nil=>exact absurd rfl hz
  | cons t r=>
   obtain ⟨c,s,e,hc⟩:=zblB (hg t (by simp))
   cases r with
   | nil=>exact ⟨c,s,by simp only [List.map,zrJ]; exact e,hc⟩
   | cons t' r=>exact ⟨c,_,by simp only [List.map,zrJ]; rw [e]; rfl,hc⟩
 by_cases a0:a=[]
 ·by_cases b0:b=[]
  ·rw [a0,b0] at h;exact ⟨by rw [a0,b0],List.append_cancel_left h⟩
  ·obtain ⟨c,r,e,hc⟩:=h48 b b0 hb;rw [a0,e0,e] at h;simp only [List.cons_append,qj] at h;exact absurd h.1.symm hc
 ·by_cases b0:b=[]
  ·obtain ⟨c,r,e,hc⟩:=h48 a a0 ha;rw [b0,e0,e] at h;simp only [List.cons_append,qj] at h;exact absurd h.1 hc
  ·rw [en a a0,en b b0] at h;exact zQE txT SN 32 [43,32] (gT V) (by decide) (λx y px py u v hu hv e=>zbnX hA px py hu hv e) a b a0 b0 ha hb u v hu hv h
theorem zbko:∀ m,RdN (zbR m)/\RdA (zbR m):=by
 intro m;induction m with
 | zero=>
  have:RdN (zbR 0):=λa b ha=>by cases ha
  exact ⟨this,zbj9 this⟩
 | succ m ih=>
  have:RdN (zbR (m+1)):=λa b ha hb wa wb u v hu hv h=>by
   have key:∀ z,zbR (m+1) z=true->zhV z->∀ t∈z,gT (zbR m) t:=λz hz wz t ht=>by
    obtain ⟨⟨c1,c2⟩,hok⟩:=zEL hz ht;have hwt:=zti (zBm (zwY wz t ht)).2.1;exact ⟨⟨c1,by omega⟩,λf hf=>⟨(zBY hok hf).2,(zv0 (hwt f hf)).1,zvH (zv0 (hwt f hf)).2⟩⟩
   exact zbns ih.2 (key a ha wa) (key b hb wb) hu hv h
  exact ⟨this,zbj9 this⟩
theorem zbm6 {m:Nat} {l l':yD} (h1:∀ f∈l,gF (zbR m) f) (h2:∀ f∈l',gF (zbR m) f) (h:txL l=txL l'):l=l':=by
 have e0:txL []=[]:=by unfold txL; rw [zWE]; rfl
 by_cases l0:l=[]
 ·by_cases l0':l'=[]
  ·rw [l0,l0']
  ·obtain ⟨c,r,e,_⟩:=zHK l0' h2;rw [l0,e0,e] at h; cases h
 ·by_cases l0':l'=[]
  ·obtain ⟨c,r,e,_⟩:=zHK l0 h1;rw [l0',e0,e] at h; cases h
  ·exact (zbbd (zbko m).2 l0 l0' h1 h2 (u:=[]) (v:=[]) (λc hc=>by cases hc) (λc hc=>by cases hc) (by rw [h])).1
def zvz (a b:Int):Int:=if 1152921504606846976<a+b then 1152921504606846976 else a+b
def cT (x y:Term):Int:=zbV (zbW x.Fs) (zbW y.Fs)
theorem z3s {x y:Term} (h:cT x y=0):x.Fs=y.Fs:=zDq _ _ (zNm _ _ h)
theorem zBV {x y:Term} (h:x.Fs=y.Fs):cT x y=0:=by unfold cT; rw [h]; exact z0f _
def zil (t:Term):yC->yC
 | []=>[t]
 | x::r=>if cT x t<0 then x::zil t r else if cT x t=0 then ⟨zvz x.Cf t.Cf,t.Fs⟩::r else t::x::r
abbrev Srs (l:yC):Prop:=l.Pairwise λx y=>cT x y<0
abbrev Dst (l:yC):Prop:=l.Pairwise λx y=>x.Fs≠y.Fs
theorem Srs.dst {l:yC} (h:Srs l):Dst l:=h.imp λ{x y} hxy e=>by rw [zBV e] at hxy; omega
def SM (l:yC) (t y:Term):Prop:=(y∈l/\y.Fs≠t.Fs)\/(y.Fs=t.Fs/\((∃ x∈l,x.Fs=t.Fs/\y.Cf=zvz x.Cf t.Cf)\/((∀ x∈l,x.Fs≠t.Fs)/\y.Cf=t.Cf)))
theorem zbbP {x y:Term} (h1:x.Cf=y.Cf) (h2:x.Fs=y.Fs):x=y:=by cases x; cases y; simp_all
theorem zXE {x y z:Term} (h1:cT x y<0) (h2:cT y z<0):cT x z<0:=zbdN h1 h2
theorem zbbp (x y:Term):cT y x= - cT x y:=zI3 _ _
theorem zbij {x t y:Term} {r:yC} (hx:x.Fs≠t.Fs) (hr:∀ z∈r,x.Fs≠z.Fs):SM (x::r) t y↔y=x\/SM r t y:=by
 unfold SM;constructor
 ·rintro (⟨h1,h2⟩ | ⟨h1,⟨z,hz,h2,h3⟩ | ⟨h2,h3⟩⟩)
  ·rcases qd.1 h1 with rfl | h1
   ·exact .inl rfl
   ·exact .inr (.inl ⟨h1,h2⟩)
  ·rcases qd.1 hz with rfl | hz
   ·exact absurd h2 hx
   ·exact .inr (.inr ⟨h1,.inl ⟨z,hz,h2,h3⟩⟩)
  ·exact .inr (.inr ⟨h1,.inr ⟨λz hz=>h2 z (by simp [hz]),h3⟩⟩)
 ·rintro (rfl | ⟨h1,h2⟩ | ⟨h1,⟨z,hz,h2,h3⟩ | ⟨h2,h3⟩⟩)
  ·exact .inl ⟨by simp,hx⟩
  ·exact .inl ⟨by simp [h1],h2⟩
  ·exact .inr ⟨h1,.inl ⟨z,by simp [hz],h2,h3⟩⟩
  ·exact .inr ⟨h1,.inr ⟨λz hz=>by
    rcases qd.1 hz with rfl | hz
    ·exact hx
    ·exact h2 z hz,h3⟩⟩
theorem zbg9 {t y:Term} {l:yC} (h:∀ z∈l,z.Fs≠t.Fs):SM l t y↔y=t\/y∈l:=by
 unfold SM;constructor
 ·rintro (⟨h1,h2⟩ | ⟨h1,⟨z,hz,h2,h3⟩ | ⟨h2,h3⟩⟩)
  ·exact .inr h1
  ·exact absurd h2 (h z hz)
  ·exact .inl (zbbP h3 h1)
 ·rintro (rfl | h1)
  ·exact .inr ⟨rfl,.inr ⟨h,rfl⟩⟩
  ·exact .inl ⟨h1,h y h1⟩
theorem zbnh {x t y:Term} {r:yC} (hx:x.Fs=t.Fs) (hr:∀ z∈r,z.Fs≠t.Fs):SM (x::r) t y↔y=⟨zvz x.Cf t.Cf,t.Fs⟩\/y∈r:=by
 unfold SM;constructor
 ·rintro (⟨h1,h2⟩ | ⟨h1,⟨z,hz,h2,h3⟩ | ⟨h2,h3⟩⟩)
  ·rcases qd.1 h1 with rfl | h1
   ·exact absurd hx h2
   ·exact .inr h1
  ·rcases qd.1 hz with rfl | hz
   ·exact .inl (zbbP h3 h1)
   ·exact absurd h2 (hr z hz)
  ·exact absurd hx (h2 x (by simp))
 ·rintro (rfl | h1)
  ·exact .inr ⟨rfl,.inl ⟨x,by simp,hx,rfl⟩⟩
  ·exact .inl ⟨by simp [h1],hr y h1⟩
theorem z3o {t y:Term}:∀ {l:yC},Srs l->(y∈zil t l↔SM l t y)
 | [],_=>by rw [zbg9 (by simp)]; simp [zil]
 | x::r,h=>by
  have hc:=qi.1 h;have hd:=qi.1 h.dst;unfold zil;by_cases h1:cT x t<0
  ·rw [if_pos h1,qd,zbij (λe=>by rw [zBV e] at h1; omega) hd.1,z3o hc.2]
  ·rw [if_neg h1];by_cases h2:cT x t=0
   ·rw [if_pos h2,List.mem_cons,zbnh (z3s h2) λz hz e=>by
     have:=hc.1 z hz; rw [zBV ((z3s h2).trans e.symm)] at this; omega]
   ·rw [if_neg h2,zbg9 λz hz e=>by
     have a:=zbbp x t;rcases qd.1 hz with rfl | hz
     ·exact h2 (zBV e)
     ·have b:=zXE (show cT t x<0 by omega) (hc.1 z hz)
      rw [zBV e.symm] at b; omega]
    rw [qd]
theorem zNn {t:Term}:∀ {l:yC},Srs l->Srs (zil t l)
 | [],_=>by simp [zil]
 | x::r,h=>by
  have hc:=qi.1 h;unfold zil;by_cases h1:cT x t<0
  ·rw [if_pos h1];refine qi.2 ⟨λz hz=> ?_,zNn hc.2⟩
   rcases (z3o hc.2).1 hz with ⟨h2,_⟩ | ⟨h2,_⟩
   ·exact hc.1 z h2
   ·have:cT x z=cT x t:=by unfold cT; rw [h2]
    rw [this]; exact h1
  ·rw [if_neg h1];by_cases h2:cT x t=0
   ·rw [if_pos h2];refine qi.2 ⟨λz hz=> ?_,hc.2⟩
    have:=hc.1 z hz;unfold cT at this ⊢;rw [<- z3s h2]; exact this
   ·rw [if_neg h2];have a:=zbbp x t;refine qi.2 ⟨λz hz=> ?_,h⟩
    rcases qd.1 hz with rfl | hz
    ·omega
    ·exact zXE (show cT t x<0 by omega) (hc.1 z hz)
def zgP (a b:yC):yC:=b.foldl (λa t=>zil t a) a
theorem zS6:∀ (b a:yC),Srs a->Srs (zgP a b)
 | [],_,h=>h
 | t::r,a,h=>zS6 r (zil t a) (zNn h)
theorem zber {t:Term}:∀ {l:yC},(∀ x∈l,cT x t<0)->zil t l=l++[t]
 | [],_=>rfl
 | x::r,h=>by
  unfold zil;rw [if_pos (h x (by simp)),zber λy hy=>h y (by simp [hy])]; rfl
theorem zbhr:∀ (r l:yC),Srs (l++r)->zgP l r=l++r
 | [],l,_=>by simp [zgP]
 | t::r,l,h=>by
  have e:zgP l (t::r)=zgP (zil t l) r:=rfl;have hp:=List.pairwise_append.1 h;rw [e,zber λx hx=>hp.2.2 x hx t (by simp),zbhr r (l++[t]) (by simpa using h)]
  simp
theorem zbmL {a:yC} (h:Srs a):zgP [] a=a:=zbhr a [] h
theorem zBX {y:Term}:∀ (b a:yC),Srs a->y∈zgP a b->∃ x,(x∈a\/x∈b)/\y.Fs=x.Fs
 | [],a,_,h=>⟨y,.inl h,rfl⟩
 | t::r,a,hs,h=>by
  obtain ⟨x,hx,e⟩:=zBX r (zil t a) (zNn hs) h;rcases hx with hx | hx
  ·rcases (z3o hs).1 hx with ⟨h1,_⟩ | ⟨h1,_⟩
   ·exact ⟨x,.inl h1,e⟩
   ·exact ⟨t,.inr (by simp),e.trans h1⟩
  ·exact ⟨x,.inr (by simp [hx]),e⟩
theorem zbjs {a b:Int} (ha:1<=a) (hb:1<=b):1<=zvz a b/\zvz a b<=1152921504606846976:=by
 unfold zvz;split
 ·omega
 ·omega
def cOK (t:Term):Prop:=1<=t.Cf/\t.Cf<=1152921504606846976
theorem z9y {t:Term} (ht:cOK t):∀ {l:yC},(∀ x∈l,cOK x)->∀ x∈zil t l,cOK x
 | [],_,x,hx=>by simp only [zil,qh] at hx; subst hx; exact ht
 | y::r,h,x,hx=>by
  unfold zil at hx;split at hx
  ·rcases qd.1 hx with rfl | hx
   ·exact h _ (by simp)
   ·exact z9y ht (λz hz=>h z (by simp [hz])) x hx
  ·split at hx
   ·rcases qd.1 hx with rfl | hx
    ·exact zbjs (h y (by simp)).1 ht.1
    ·exact h x (by simp [hx])
   ·rcases qd.1 hx with rfl | hx
    ·exact ht
    ·exact h x hx
theorem zbeb:∀ (b:yC) {a:yC},(∀ x∈a,cOK x)->(∀ x∈b,cOK x)->∀ x∈zgP a b,cOK x
 | [],a,ha,_=>ha
 | t::r,a,ha,hb=>zbeb r (z9y (hb t (by simp)) ha) λx hx=>hb x (by simp [hx])
theorem z3x {t:Term}:∀ (l:yC),(zil t l).length<=l.length+1
 | []=>by simp [zil]
 | x::r=>by
  have:=z3x (t:=t) r;unfold zil;split
  ·simp only [qf]; omega
  ·split <;>simp
theorem zNl:∀ (b a:yC),(zgP a b).length<=a.length+b.length
 | [],a=>by simp [zgP]
 | t::r,a=>by
  have h1:=zNl r (zil t a);have h2:=z3x (t:=t) a;show (zgP (zil t a) r).length<=_;simp only [qf]; omega
def cF (x y:Fc):Int:=zbq (zet x.At) (zet y.At)
theorem zbb4 {x y:Fc} (h:cF x y=0):x.At=y.At:=z7U _ _ (zvD _ _ h)
theorem zbaM (x y:Fc):cF y x= - cF x y:=zir _ _
theorem zbdt {a b c:TT} (h1:zbq a b<0) (h2:zbq b c<0):zbq a c<0:=by
 have h:=zBr a b c (by omega) (by omega)
 by_cases e:zbq a c=0
 ·have e':=zvD a c e;subst e';have:=zir a b;omega
 ·omega
theorem zAl {x y z:Fc} (h1:cF x y<0) (h2:cF y z<0):cF x z<0:=zbdt h1 h2
abbrev Srf (l:yD):Prop:=l.Pairwise λx y=>cF x y<0
def zKg (f:Fc):yD->yD
 | []=>[f]
 | x::r=>if cF x f<0 then x::zKg f r else if cF x f=0 then (if f.At.Kind<3 then ⟨f.At,x.Exp+f.Exp⟩ else f)::r else f::x::r
def zb0:yD->yD->yD
 | [],b=>b
 | x::a,[]=>x::a
 | x::a,y::b=>if cF x y<0 then x::zb0 a (y::b) else if 0<cF x y then y::zb0 (x::a) b else (if x.At.Kind=3\/x.At.Kind=4 then x else ⟨x.At,x.Exp+y.Exp⟩)::zb0 a b
termination_by a b=>a.length+b.length
theorem zJH (a:yD):zb0 a []=a:=by cases a <;>rw [zb0]
theorem zNV {m:Fc} {L b:yD} (h:∀ z∈b,cF m z<0):zb0 (m::L) b=m::zb0 L b:=by
 cases b with
 | nil=>rw [zJH,zJH]
 | cons z b=>rw [zb0,if_pos (h z (by simp))]
def eOK (f:Fc):Prop:=(0<=f.At.Kind/\f.At.Kind<=4)/\(f.At.Kind=3\/f.At.Kind=4->f.Exp=1)
theorem zbfI {y:Fc} {b:yD} (hb:∀ z∈b,cF y z<0) (hy:eOK y):∀ {a:yD},(∀ x∈a,eOK x)->zb0 (zKg y a) b=zb0 a (y::b)
 | [],_=>by
  rw [zKg,zNV hb,zb0,zb0]
 | x::a,ha=>by
  unfold zKg;by_cases h1:cF x y<0
  ·rw [if_pos h1,zNV λz hz=>zAl h1 (hb z hz),zbfI hb hy λz hz=>ha z (by simp [hz]),zNV (m:=x) (b:=y::b) λz hz=>by
    rcases qd.1 hz with rfl | hz
    ·exact h1
    ·exact zAl h1 (hb z hz)]
  ·rw [if_neg h1];by_cases h2:cF x y=0
   ·have ea:=zbb4 h2
    rw [if_pos h2,zNV λz hz=>by
     have e:(if y.At.Kind<3 then (⟨y.At,x.Exp+y.Exp⟩:Fc) else y).At=y.At:=by split <;>rfl
     have:=hb z hz;unfold cF at this ⊢; rw [e]; exact this]
    rw [zb0,if_neg h1,if_neg (show ¬ 0<cF x y by omega)]
    congr 1;have hx:=ha x (by simp)
    obtain ⟨xa,xe⟩:=x;obtain ⟨ya,ye⟩:=y;simp only at ea;subst ea;obtain ⟨⟨k0,k4⟩,h3⟩:=hx;obtain ⟨_,h3'⟩:=hy;simp only at k0 k4 h3 h3' ⊢;by_cases hk:xa.Kind<3
    ·rw [if_pos hk,if_neg (by omega)]
    ·have hk':xa.Kind=3\/xa.Kind=4:=by omega
     rw [if_neg hk,if_pos hk',h3 hk',h3' hk']
   ·rw [if_neg h2,zNV hb];rw [zb0,if_neg h1,if_pos (by omega)]
theorem zVm:∀ (b a:yD),Srf b->(∀ x∈a,eOK x)->(∀ x∈b,eOK x)->b.foldl (λl f=>zKg f l) a=zb0 a b
 | [],a,_,_,_=>by rw [zJH]; rfl
 | y::b,a,hs,ha,hb=>by
  have hc:=qi.1 hs;have hy:=hb y (by simp)
  rw [List.foldl_cons,zVm b (zKg y a) hc.2 (λx hx=> ?_) λx hx=>hb x (by simp [hx]),zbfI hc.1 hy ha]
  -- kinds and exponents are kept
  clear hs hc hb;induction a with
  | nil=>simp only [zKg,qh] at hx; subst hx; exact hy
  | cons z r ih=>
   unfold zKg at hx;split at hx
   ·rcases qd.1 hx with rfl | hx
    ·exact ha _ (by simp)
    ·exact ih (λw hw=>ha w (by simp [hw])) hx
   ·split at hx
    ·rcases qd.1 hx with rfl | hx
     ·split
      ·rename_i hk; exact ⟨hy.1,λh=>by simp only at h; omega⟩
      ·exact hy
     ·exact ha x (by simp [hx])
    ·rcases qd.1 hx with rfl | hx
     ·exact hy
     ·exact ha x hx
theorem zq6 {x:Fc}:∀ {a b:yD},x∈zb0 a b->∃ y,(y∈a\/y∈b)/\x.At=y.At
 | [],b,h=>⟨x,.inr (by rwa [zb0] at h),rfl⟩
 | y::a,[],h=>⟨x,.inl (by rwa [zb0] at h),rfl⟩
 | y::a,z::b,h=>by
  rw [zb0] at h;split at h
  ·rcases qd.1 h with rfl | h
   ·exact ⟨x,.inl (by simp),rfl⟩
   ·obtain ⟨w,hw,e⟩:=zq6 h;rcases hw with hw | hw
    ·exact ⟨w,.inl (by simp [hw]),e⟩
    ·exact ⟨w,.inr hw,e⟩
  ·split at h
   ·rcases qd.1 h with rfl | h
    ·exact ⟨x,.inr (by simp),rfl⟩
    ·obtain ⟨w,hw,e⟩:=zq6 h;rcases hw with hw | hw
     ·exact ⟨w,.inl hw,e⟩
     ·exact ⟨w,.inr (by simp [hw]),e⟩
   ·rcases qd.1 h with rfl | h
    ·exact ⟨y,.inl (by simp),by split <;>rfl⟩
    ·obtain ⟨w,hw,e⟩:=zq6 h;rcases hw with hw | hw
     ·exact ⟨w,.inl (by simp [hw]),e⟩
     ·exact ⟨w,.inr (by simp [hw]),e⟩
termination_by a b=>a.length+b.length
theorem zOI:∀ (a b:yD),(zb0 a b).length<=a.length+b.length
 | [],b=>by rw [zb0]; simp
 | y::a,[]=>by rw [zb0]; simp
 | y::a,z::b=>by
  rw [zb0];split
  ·have:=zOI a (z::b); simp only [qf] at this ⊢; omega
  ·split
   ·have:=zOI (y::a) b; simp only [qf] at this ⊢; omega
   ·have:=zOI a b; simp only [qf] at this ⊢; omega
termination_by a b=>a.length+b.length
theorem zOp {x:Fc} {B:Int}:∀ {a b:yD},(∀ y∈a,1<=y.Exp/\y.Exp<=B)->(∀ y∈b,1<=y.Exp/\y.Exp<=B)->x∈zb0 a b->1<=x.Exp/\x.Exp<=2*B
 | [],b,ha,hb,h=>by rw [zb0] at h; have:=hb x h; omega
 | y::a,[],ha,hb,h=>by rw [zb0] at h; have:=ha x h; omega
 | y::a,z::b,ha,hb,h=>by
  have hy:=ha y (by simp)
  have hz:=hb z (by simp)
  rw [zb0] at h;split at h
  ·rcases qd.1 h with rfl | h
   ·omega
   ·exact zOp (λw hw=>ha w (by simp [hw])) hb h
  ·split at h
   ·rcases qd.1 h with rfl | h
    ·omega
    ·exact zOp ha (λw hw=>hb w (by simp [hw])) h
   ·rcases qd.1 h with rfl | h
    ·split
     ·omega
     ·simp only; omega
    ·exact zOp (λw hw=>ha w (by simp [hw])) (λw hw=>hb w (by simp [hw])) h
termination_by a b=>a.length+b.length
def zv5 (a b:Int):Int:=if Int.tdiv 1152921504606846976 b<a then 1152921504606846976 else a*b
def zvj (x y:Term):Term:=⟨zv5 x.Cf y.Cf,zb0 x.Fs y.Fs⟩
def zgM (a b:yC):yC:=a.flatMap λx=>b.map (zvj x)
def zd4 (a b:yC):yC:=zgP [] (zgM a b)
theorem zMO {a b:Int} (ha:1<=a/\a<=1152921504606846976) (hb:1<=b/\b<=1152921504606846976):(1<=zv5 a b/\zv5 a b<=1152921504606846976)/\(¬ Int.tdiv 1152921504606846976 b<a->a*b<=1152921504606846976):=by
 have h1:¬ Int.tdiv 1152921504606846976 b<a->a*b<=1152921504606846976:=λh=>by
  rw [Int.tdiv_eq_ediv_of_nonneg (by omega)] at h
  have h2:a<=1152921504606846976 / b:=by omega
  exact (Int.le_ediv_iff_mul_le (by omega)).1 h2
 refine ⟨?_,h1⟩;unfold zv5;split
 ·omega
 ·rename_i h;refine ⟨?_,h1 h⟩;have:=Int.mul_le_mul ha.1 hb.1 (by omega) (by omega)
  omega
theorem zEv {t:Term} {a b:yC} (h:t∈zgM a b):∃ x∈a,∃ y∈b,t=zvj x y:=by
 obtain ⟨x,hx,ht⟩:=List.mem_flatMap.1 h;obtain ⟨y,hy,rfl⟩:=List.mem_map.1 ht;exact ⟨x,hx,y,hy,rfl⟩
theorem zbcu (a b:yC):(zgM a b).length=a.length*b.length:=by
 unfold zgM;induction a with
 | nil=>simp
 | cons x r ih=>rw [List.flatMap_cons,qg,ih,List.length_map,qf,Nat.add_mul]; omega
section
variable {α β ρ τ:Type} [Inhabited τ]
theorem zUB (p:τ->Bool):∀ l:List τ,l.take (l.takeWhile p).length=l.takeWhile p
 | []=>rfl
 | x::r=>by
  rw [List.takeWhile_cons];cases p x with
  | true=>simp [zUB p r]
  | false=>simp
theorem zTY (p:τ->Bool):∀ l:List τ,l.drop (l.takeWhile p).length=l.dropWhile p
 | []=>rfl
 | x::r=>by
  rw [List.takeWhile_cons,List.dropWhile_cons];cases p x with
  | true=>simp [zTY p r]
  | false=>simp
theorem zbop (p:τ->Bool) (l:List τ):(l.takeWhile p).length<=l.length:=(List.takeWhile_prefix p).length_le
theorem zbcw {W:α->β->Wy α β ρ} {z:ρ} (l:List τ) (p:τ->Bool) (ex:Nat->α) (ey:Nat->β) (res:Nat->ρ)
  (h:∀ i,i<l.length->∀ (H:α->β->Bool×ρ) K D,(W (ex i) (ey i)).ev H K D=bif p (l.getD i default) then H (ex (i+1)) (ey (i+1)) else K (res i))
  (he:∀ (H:α->β->Bool×ρ) K D,(W (ex l.length) (ey l.length)).ev H K D=K (res l.length)):
  ∀ n i,l.length<i+n->i<=l.length->zA W z n (ex i) (ey i)=(true,res (i+((l.drop i).takeWhile p).length))
 | 0,i,h1,h2=>by omega
 | n+1,i,h1,h2=>by
  show (W (ex i) (ey i)).ev (zA W z n) (λr=>(true,r)) (false,z)=_
  by_cases hi:i<l.length
  ·rw [h i hi,zY hi,List.takeWhile_cons];cases hp:p (l.getD i default) with
   | false=>simp
   | true=>
    rw [cond_true,zbcw l p ex ey res h he n (i+1) (by omega) (by omega)]
    simp only [if_true,qf];congr 2; omega
  ·have:i=l.length:=by omega
   subst this;rw [he,zce hi]; rfl
theorem zMm {W:α->β->Wy α β ρ} {z:ρ} (l:List τ) (p:τ->Bool) (ex:Nat->α) (ey:Nat->β) (res:Nat->ρ)
  (h:∀ i,i<l.length->∀ (H:α->β->Bool×ρ) K D,(W (ex i) (ey i)).ev H K D=bif p (l.getD i default) then H (ex (i+1)) (ey (i+1)) else K (res i))
  (he:∀ (H:α->β->Bool×ρ) K D,(W (ex l.length) (ey l.length)).ev H K D=K (res l.length)) (n:Nat) (hn:l.length<n):
  zA W z n (ex 0) (ey 0)=(true,res (l.takeWhile p).length):=by
 have:=zbcw (z:=z) l p ex ey res h he n 0 (by omega) (by omega)
 simpa using this
def zXF (p:τ->Bool) (x:τ) (l:List τ):List τ:=l.takeWhile p++x::l.dropWhile p
theorem zbcz (p:τ->Bool) (x y:τ) (r:List τ):zXF p x (y::r)=bif p y then y::zXF p x r else x::y::r:=by
 unfold zXF;rw [List.takeWhile_cons,List.dropWhile_cons];cases p y <;>simp
theorem zIR (p:τ->Bool) (x:τ):∀ l:List τ,(zXF p x l).Perm (x::l)
 | []=>.refl _
 | y::r=>by
  rw [zbcz];cases p y
  ·exact .refl _
  ·exact ((zIR p x r).cons y).trans (.swap x y r)
abbrev Srt (key:τ->TT) (l:List τ):Prop:=l.Pairwise λx y=>zbq (key x) (key y)<=0
theorem zbfX (key:τ->TT) (x:τ):∀ l:List τ,Srt key l->Srt key (zXF (λy=>decide (zbq (key y) (key x)<=0)) x l)
 | [],_=>by simp [zXF]
 | y::r,h=>by
  have h:=qi.1 h;rw [zbcz];by_cases hp:zbq (key y) (key x)<=0
  ·rw [decide_eq_true hp];refine qi.2 ⟨λz hz=> ?_,zbfX key x r h.2⟩
   rcases qd.1 ((zIR _ x r).mem_iff.1 hz) with rfl | hz
   ·exact hp
   ·exact h.1 z hz
  ·rw [decide_eq_false hp];have hxy:zbq (key x) (key y)<=0:=by have:=zir (key x) (key y); omega
   refine qi.2 ⟨λz hz=> ?_,qi.2 h⟩
   rcases qd.1 hz with rfl | hz
   ·exact hxy
   ·exact zBr _ _ _ hxy (h.1 z hz)
end
theorem zUs {τ:Type} (l:List τ) (k:Nat):List.take (k - Int.toNat 0) (List.drop (Int.toNat 0) l)=l.take k:=by simp
theorem zER {τ:Type} (l:List τ) (k:Nat):List.take ((Int.ofNat l.length).toNat - k) (List.drop k l)=l.drop k:=by
 simp only [Int.ofNat_eq_natCast,Int.toNat_natCast];rw [List.take_of_length_le (by simp)]
theorem zbgc (n:Nat):(n==0)= !decide (0<n):=by cases n <;>simp
def zHE (w:Wd):Bool:=decide (0<w.Ann.length)
def zgd (l:yE):yE:=zfK zbv (l.filter zHE)
theorem zbe1 {d:Nat} {l:yE} (hl:l.length<=1000000) (h:∀ w∈l,zw d w.Ann) (hd:d<=99):SortOK zbv l:=by
 have e:∀ x∈l,∀ y,zbv x y=(true,zbq (zbx x) (zbx y)):=λx hx y=>zon (h x hx) hd y
 refine ⟨by omega,λx hx y _=>by rw [e x hx],λx hx=> ?_,λx hx y hy z hz h1 h2=> ?_,λx hx y hy z hz h1 h2=> ?_,λx hx y hy h1 h2=> ?_⟩
 ·rw [e x hx,zRj]; omega
 ·rw [e x hx] at h1 ⊢; rw [e y hy] at h2;have h3:=zBr _ _ _ (show zbq (zbx x) (zbx y)<=0 by simp only at h1; omega) (show zbq (zbx y) (zbx z)<=0 by simp only at h2; omega)
  simp only at h1 h2 ⊢;by_cases e0:zbq (zbx x) (zbx z)=0
  ·have:=zvD _ _ e0;rw [<- this,zir (zbx x) (zbx y)] at h2;omega
  ·omega
 ·rw [e x hx] at h1 ⊢; rw [e y hy] at h2;simp only at h1 h2 ⊢;have a1:=zir (zbx x) (zbx y);have a2:=zir (zbx y) (zbx z);have a3:=zir (zbx x) (zbx z);have:=zBr (zbx z) (zbx y) (zbx x) (by omega) (by omega)
  omega
 ·rw [e x hx] at h1; rw [e y hy] at h2;simp only at h1 h2;have a1:=zir (zbx x) (zbx y);exact z8A _ _ (zvD _ _ (by omega))
def zzO (w:Wd) (out:yE):yE:=bif zHE w then zXF (λy=>decide (zbq (zbx y) (zbx w)<=0)) w out else out
theorem zbkv {d:Nat} (l:yE) (i:Nat) (hi:i<l.length) (hl:l.length<=1000000) (out:yE) (ho:out.length<=1000000) (h:∀ w∈out,zw d w.Ann) (hd:d<=99) (n:Nat) (hn:out.length<n):
  zUJ n l i 0 out=(true,(l,(i:Int),(((out.takeWhile λy=>decide (zbq (zbx y) (zbx (l.getD i default))<=0)).length:Nat):Int),out)):=by
 exact zMm (W:=zH1) (z:=default) out (λy=>decide (zbq (zbx y) (zbx (l.getD i default))<=0)) (λk=>(l,(),(i:Int),(k:Int),())) (λ_=>(out,())) (λk=>(l,(i:Int),(k:Int),out))
  (λk hk H K D=>by
   show (zvU l i k out).ev H K D=_;unfold zvU;have e1:(decide ((k:Int)<=((k+1:Nat):Int))&&decide (((k+1:Nat):Int)<=Int.ofNat out.length))=true:=by simp; try omega
   have e2:(decide ((i:Int)<=((i+1:Nat):Int))&&decide (((i+1:Nat):Int)<=Int.ofNat l.length))=true:=by simp; try omega
   have e3:decide ((k:Int)<Int.ofNat out.length)=true:=by simp [hk]
   simp only [Wy.ev_i,Wy.ev_k,Wy.ev_h,Wy.ev_bn,Wy.ev_d,zJ (show k<4611686018427387904 by omega),zJ (show i<4611686018427387904 by omega),e1,e2,e3,zbc,Bool.true_and,cond_true,Int.toNat_natCast,show k+1 - k=1 by omega,show i+1 - i=1 by omega,zbed _ _ hi,zbed _ _ hk]
   rw [zEw (d:=d) (by simp) (λw hw=>by
    rw [qh] at hw; subst hw; exact h _ (zI hk)) hd,zmP,zmP]
   simp only [List.map,zblL,cond_true])
  (λH K D=>by
   show (zvU l i out.length out).ev H K D=_;unfold zvU;have e3:decide ((out.length:Int)<Int.ofNat out.length)=false:=by simp
   simp only [Wy.ev_i,Wy.ev_k,e3,cond_false]) n hn
theorem zbj2 (w:Wd) (out:yE):(zzO w out).length<=out.length+1:=by
 unfold zzO;cases zHE w with
 | false=>simp
 | true=>simp only [cond_true]; rw [(zIR _ w out).length_eq]; simp
theorem zbjP {w y:Wd} {out:yE} (h:y∈zzO w out):y=w\/y∈out:=by
 unfold zzO at h;cases hb:zHE w with
 | false=>rw [hb] at h; exact .inr h
 | true=>rw [hb] at h; exact qd.1 ((zIR _ w out).mem_iff.1 h)
theorem zblt {d:Nat} (l:yE) (hl:l.length<=1000000) (h:∀ w∈l,zw d w.Ann) (hd:d<=99) (n:Nat) (hn:l.length<n):zTs n l 0 []=(true,l.foldl (λout w=>zzO w out) []):=by
 have hreach:zP=70368744177664:=rfl
 have:=zeu (W:=zHm) (z:=default) (l:=l) (λi (out:yE)=>(l,(),(i:Int),())) (λ_ out=>(out,())) (λw out=>.inl (zzO w out)) (λout=>out) (λi out=>out.length<=i/\∀ w∈out,zw d w.Ann)
  (λi out hi hI=>.inl ⟨_,rfl,⟨by have:=zbj2 (l.getD i default) out; omega,λw hw=>by
    rcases zbjP hw with rfl | hw
    ·exact h _ (zI hi)
    ·exact hI.2 w hw⟩,λH K D=>by
   show (zvT l i out).ev H K D=_;unfold zvT;have e0:((l.getD i default).Ann.length==0)= !zHE (l.getD i default):=zbgc _;have e3:decide ((i:Int)<Int.ofNat l.length)=true:=by simp [hi]
   simp only [Wy.ev_i,Wy.ev_k,Wy.ev_h,Wy.ev_bn,Wy.ev_d,e3,zbc,Bool.and_self,cond_true,Int.toNat_natCast,show (Int.ofNat (l.getD i default).Ann.length==(0:Int))=((l.getD i default).Ann.length==0) from zzs _ 0,e0]
   rw [zbkv l i hi hl out (by omega) hI.2 hd _ (by omega)]
   simp only [cond_true,zUs,zER,List.nil_append,Int.toNat_natCast,e3,zbc,Bool.and_self,Int.le_refl,decide_true,Bool.true_and,Bool.and_true];have q1:=zbop (λy=>decide (zbq (zbx y) (zbx (l.getD i default))<=0)) out
   have q2:decide (((out.takeWhile λy=>decide (zbq (zbx y) (zbx (l.getD i default))<=0)).length:Int)<=Int.ofNat out.length)=true:=by simp only [qe,Int.ofNat_eq_natCast]; omega
   have hb1:decide ((0+(out.take (out.takeWhile λy=>decide (zbq (zbx y) (zbx (l.getD i default))<=0)).length).length)*56<=zP)=true:=by simp only [qe,List.length_take]; omega
   have hb2:decide (((out.take (out.takeWhile λy=>decide (zbq (zbx y) (zbx (l.getD i default))<=0)).length).length+[l.getD i default].length)*56<=zP)=true:=by simp only [qe,List.length_take,List.length_singleton]; omega
   have hb3:decide (((out.take (out.takeWhile λy=>decide (zbq (zbx y) (zbx (l.getD i default))<=0)).length++[l.getD i default]).length+(out.drop (out.takeWhile λy=>decide (zbq (zbx y) (zbx (l.getD i default))<=0)).length).length)*56<=zP)=true:=by simp only [qe,qg,List.length_take,List.length_singleton,List.length_drop]; omega
   simp only [q2,hb1,hb2,hb3,cond_true];rw [zJ (by omega),zUB,zTY]
   unfold zzO zXF;cases zHE (l.getD i default) <;>simp⟩)
  (λout hI H K D=>by
   show (zvT l l.length out).ev H K D=_;unfold zvT;have e3:decide ((l.length:Int)<Int.ofNat l.length)=false:=by simp
   simp only [Wy.ev_i,Wy.ev_k,e3,cond_false]) n 0 [] (by omega) (by omega) ⟨by simp,λw hw=>by cases hw⟩
 rw [List.drop_zero,zex] at this;exact this
theorem z7S:∀ (l out:yE),(l.foldl (λout w=>zzO w out) out).Perm (l.filter zHE++out)/\(Srt zbx out->Srt zbx (l.foldl (λout w=>zzO w out) out))
 | [],out=>⟨.refl _,λh=>h⟩
 | w::r,out=>by
  obtain ⟨h1,h2⟩:=z7S r (zzO w out);rw [List.foldl_cons,List.filter_cons];cases hb:zHE w with
  | false=>
   have e:zzO w out=out:=by unfold zzO; rw [hb]; rfl
   rw [e] at h1 h2 ⊢;exact ⟨by simpa using h1,h2⟩
  | true=>
   have e:zzO w out=zXF (λy=>decide (zbq (zbx y) (zbx w)<=0)) w out:=by unfold zzO; rw [hb]; rfl
   rw [e] at h1 h2 ⊢;refine ⟨?_,λh=>h2 (zbfX zbx w out h)⟩
   simp only [if_true,List.cons_append];exact h1.trans (((zIR _ w out).append_left _).trans List.perm_middle)
theorem zbjN {d:Nat} (l:yE) (hl:l.length<=1000000) (h:∀ w∈l,zw d w.Ann) (hd:d<=99):zCV l=(true,zgd l):=by
 unfold zCV zX4;rw [Wy.fin_bn,zblt l hl h hd _ (by omega)]
 simp only [cond_true,Wy.fin_k];congr 1;obtain ⟨h1,h2⟩:=z7S l [];rw [List.append_nil] at h1;have hm:∀ w∈l.filter zHE,zw d w.Ann:=λw hw=>h w (List.mem_filter.1 hw).1
 refine (zbe1 (d:=d) (Nat.le_trans (List.length_filter_le _ _) hl) hm hd).unique h1 ?_;refine (h2 .nil).imp_of_mem λ{x y} hx hy hxy=> ?_
 rw [zon (hm y (h1.mem_iff.1 hy)) hd,zir (zbx x) (zbx y)];simp only; omega
def z2L (op sign:Int):Bool:=bif op==5 then sign==0 else bif op==6 then sign != 0 else bif op==7 then decide (sign<0) else bif op==8 then decide (sign<=0) else bif op==9 then decide (sign>0) else decide (sign≥0)
theorem zbiy {op sign:Int} (h1:5<=op) (h2:op<=10):zyf op sign=(true,z2L op sign):=by
 unfold zyf zQH z2L;simp only [Wy.fin_i,Wy.fin_k,zl2];by_cases a1:op=5
 ·simp [a1]
 by_cases a2:op=6
 ·simp [a2]
 by_cases a3:op=7
 ·simp [a3]
 by_cases a4:op=8
 ·simp [a4]
 by_cases a5:op=9
 ·simp [a5]
 have a6:op=10:=by omega
 simp [a6]
def z0E (fn:Int) (l:yE) (op:Int) (b:Value):At:=⟨4,⟨0,0⟩,[],fn,l,op,b⟩
def zDy (fn:Int) (items:yE) (op:Int) (b:Value):yC×Int:=
 bif !(zAY fn items op b&&items.all λw=>zbe w.Ann) then ([],1) else
 bif decide (0<(zgd items).length) then zzc (zhj (z0E fn (zgd items) op b)) else
 bif fn==0&&z2L op (zdJ 0 b.Int) then ([⟨1,[]⟩],0) else ([],0)
theorem zME {l:yE} {w:Wd} (h:w∈zgd l):w∈l/\w.Ann≠[]:=by
 have:=(zgr _ _).mem_iff.1 h;obtain ⟨h1,h2⟩:=List.mem_filter.1 this;refine ⟨h1,λe=> ?_⟩
 rw [zHE,e] at h2; simp at h2
theorem z88 (l:yE):(zgd l).length=(l.filter zHE).length:=(zgr _ _).length_eq
theorem z1X {B:Nat}:∀ l:yE,(∀ w∈l,zX w.Ann<=B)->zdU l<=l.length*(B+1)
 | [],_=>by rw [zlt]; simp
 | w::r,h=>by
  rw [zj4,qf];have h1:=h w (by simp)
  have h2:=z1X r λw hw=>h w (by simp [hw])
  rw [Nat.add_mul]; omega
theorem z7f {fn:Int} {l:yE} {op:Int} {b:Value} (hl:l.length<=1000000) (hf:zAY fn l op b=true) (hv:(l.all λw=>zbe w.Ann)=true):zw 10 (zhj (z0E fn (zgd l) op b))/\zX (zhj (z0E fn (zgd l) op b))<=4611686018427387904:=by
 obtain ⟨_,hb,hit⟩:=zBG hf;have hvv:∀ w∈l,zbe w.Ann=true:=λw hw=>List.all_eq_true.1 hv w hw
 have hlen:(zgd l).length<=1000000:=by rw [z88]; exact Nat.le_trans (List.length_filter_le _ _) hl
 constructor
 ·refine z2i ⟨⟨by simp [z0E],hlen,by have:=zEx hb; simp only [z0E]; omega⟩,λy hy=>(by cases hy),λw hw=> ?_⟩
  have hm:=(zME hw).1;exact ⟨by have:=zEx (hit w hm).1; omega,(zgB (hvv w hm)).1⟩
 ·rw [z6z,ziU];have h1:zdU (zgd l)<=(zgd l).length*(4096+1):=z1X _ λw hw=>(zgB (hvv w (zME hw).1)).2.1
  show 2+(zfp []+zdU (zgd l))<=_;rw [zmY];have:=Nat.mul_le_mul hlen (Nat.le_refl (4096+1));omega
theorem zblj {d:Nat} (fn:Int) (l:yE) (op:Int) (b:Value) (hl:l.length<=1000000) (h:∀ w∈l,zw d w.Ann/\zX w.Ann<=4611686018427387904) (hd:d<=99):
  zBI fn l op b=(true,zDy fn l op b):=by
 unfold zBI zZ9 zDy;have hI:=zbjN l hl (λw hw=>(h w hw).1) hd
 have hgt:decide (0<(zgd l).length)= !((zgd l).length==0):=by rw [zbgc,Bool.not_not]
 have hL:zYc (fn.toNat +l.length+op.toNat +Int.toNat (0:Int)+(1:Nat)) fn l op (0:Int) b=(true,bif l.all λw=>zbe w.Ann then .inr (fn,l,op,b) else .inl 1):=by
  have:=zg7 (W:=zK2) (z:=.inl default) l.length (λi=>(fn,l,op,(),(i:Int),())) (λ_=>(b,())) (λi=>(λw:Wd=>zbe w.Ann) (l.getD i default)) (.inl 1) (.inr (fn,l,op,b))
   (λi hi H K D=>by
    show (zyb fn l op i b).ev H K D=_;unfold zyb;have hx:=h _ (zI hi);simp only [Wy.ev_i,Wy.ev_k,Wy.ev_h,Wy.ev_bn,Wy.ev_d,tT,hi,z9g hx.1 (by omega) hx.2]
    rw [zJ (by omega)]
    cases zbe (l.getD i default).Ann <;>rfl)
   (λH K D=>by
    show (zyb fn l op l.length b).ev H K D=_;unfold zyb;simp only [Wy.ev_i,Wy.ev_k,tT,Nat.lt_irrefl]) (fn.toNat +l.length+op.toNat +Int.toNat (0:Int)+(1:Nat)) (by omega)
  rw [ztF (λw:Wd=>zbe w.Ann)] at this
  exact this
 simp only [Wy.fin_bn,Wy.fin_i,Wy.fin_k,zbfT fn l op b hl,hL,cond_true,hgt];cases hf:zAY fn l op b with
 | false=>rfl
 | true=>
  cases hv:l.all λw=>zbe w.Ann with
  | false=>rfl
  | true=>
   simp only [Bool.not_true,cond_false,cond_true,Bool.and_self,isL,getR,hI];rw [show (Int.ofNat (zgd l).length==(0:Int))=((zgd l).length==0) from zzs _ 0,zTa]
   have hx:(⟨4,⟨0,0⟩,[],fn,zgd l,op,b⟩:At)=z0E fn (zgd l) op b:=rfl;rw [hx,zTz (z7f hl hf hv).1 (by omega) (z7f hl hf hv).2]
   cases ((zgd l).length==0) with
   | false=>rfl
   | true=>
    obtain ⟨⟨_,_,o1,o2⟩,_⟩:=zBG hf;simp only [cond_false,Bool.not_true,zob,zbiy o1 o2,cond_true];cases fn==0 with
    | false=>rfl
    | true=>
     cases z2L op (zdJ 0 b.Int) <;>rfl
end Go.Proofs.YtljlfiomikifjaaGreatDoor
end
