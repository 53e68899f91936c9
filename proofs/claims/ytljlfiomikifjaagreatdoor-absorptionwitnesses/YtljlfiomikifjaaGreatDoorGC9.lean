/- Texts of this claim, joined (the program, its functions in plain words, and what they compute). -/
import Derived.Test.YtljlfiomikifjaaGreatDoorGC8
set_option autoImplicit false
set_option linter.unusedVariables false
set_option linter.unusedSectionVars false
set_option linter.unusedSimpArgs false
set_option maxRecDepth 1000000
set_option maxHeartbeats 0
/- The texts of annotations: what the program's texts are. -/
noncomputable section
namespace Go.Proofs.YtljlfiomikifjaaGreatDoor
open Go Go.Ab
def txV (v:Value):List UInt8:=if v.Kind=0 then zkR v.Int else if v.Kind=1 then 39::(v.Text.data.toList.flatMap esc++[39]) else if v.Int=1 then [84,82,85,69] else [70,65,76,83,69]
def txR (r:RowID):List UInt8:=116::(zkR r.Table++46::zkR r.Seq)
def fnT (f:Int):List UInt8:=if f=0 then [67,79,85,78,84] else if f=1 then [83,85,77] else if f=2 then [77,73,78] else [77,65,88]
def opT (o:Int):List UInt8:=if o=5 then [61] else if o=6 then [60,62] else if o=7 then [60] else if o=8 then [60,61] else if o=9 then [62] else [62,61]
def z4J (ts:List (List UInt8)):List UInt8:=if ts=[] then [48] else zqI ts [32,43,32]
def z9x (c:Int) (fs:List (List UInt8)):List UInt8:=if fs=[] then zkR c else if c=1 then zqI fs [42] else zkR c++42::zqI fs [42]
def z8J (x:List UInt8) (e:Int):List UInt8:=if e=1 then x else x++94::zkR e
def zfV (k:Int) (r:RowID) (xs:List (List UInt8)) (f:Int) (is:List (List UInt8)) (o:Int) (b:Value):List UInt8:=
 if k=0 then txR r
 else if k=1 then [109,111,110,117,115,91]++(xs.getD 0 []++([44,32]++(xs.getD 1 []++[93])))
 else if k=2 then [100,101,108,116,97,91]++(xs.getD 0 []++[93])
 else if k=3 then [97,98,115,101,110,116,91]++(xs.getD 0 []++[93])
 else [116,101,115,116,91]++(fnT f++([123]++(zqI is [59,32]++([125,32]++(opT o++([32]++(txV b++[93])))))))
mutual
def txA:At->List UInt8
 | ⟨k,r,a,f,i,o,b⟩=>zfV k r (z9J a) f (zbaC i) o b
def zR0:yD->List (List UInt8)
 | []=>[]
 | ⟨x,e⟩::l=>z8J (txA x) e::zR0 l
def zYx:yC->List (List UInt8)
 | []=>[]
 | ⟨c,fs⟩::l=>z9x c (zR0 fs)::zYx l
def z9J:yA->List (List UInt8)
 | []=>[]
 | a::l=>z4J (zYx a)::z9J l
def zbaC:yE->List (List UInt8)
 | []=>[]
 | ⟨v,a⟩::l=>(txV v++([58,32]++z4J (zYx a)))::zbaC l
end
def txF (f:Fc):List UInt8:=z8J (txA f.At) f.Exp
def txT (t:Term):List UInt8:=z9x t.Cf (zR0 t.Fs)
def txN (a:yC):List UInt8:=z4J (zYx a)
def txI (w:Wd):List UInt8:=txV w.Value++([58,32]++txN w.Ann)
theorem zLO:∀ l,zR0 l=l.map txF
 | []=>by rw [zR0]; rfl
 | x::r=>by rw [zR0,zLO r]; rfl
theorem z94:∀ l,zYx l=l.map txT
 | []=>by rw [zYx]; rfl
 | x::r=>by rw [zYx,z94 r]; rfl
theorem zB2:∀ l,z9J l=l.map txN
 | []=>by rw [z9J]; rfl
 | x::r=>by rw [z9J,zB2 r]; rfl
theorem z2l:∀ l,zbaC l=l.map txI
 | []=>by rw [zbaC]; rfl
 | x::r=>by rw [zbaC,z2l r]; rfl
def txL (l:yD):List UInt8:=zqI (zR0 l) [42]
theorem zuG {n:Int} (h:wf3 n): -9223372036854775808<=n/\n<=9223372036854775807:=by
 have h:(Lit.int .i64 n).wf=true:=h;have:IntKind.i64.min<=n/\n<=IntKind.i64.max:=by simpa [Lit.wf] using h
 exact ⟨this.1,this.2⟩
def rng (n:Int):Prop:= -9223372036854775808<=n/\n<=9223372036854775807
instance (n:Int):Decidable (rng n):=by unfold rng; infer_instance
theorem zbaT {m:Nat} {x:At} (h:zij (zde m) x=true) (hi:x.Items.length<=1024):zj3 x<=4195328:=by
 rw [zjy];cases zjO.1 h with
 | var r h=>rw [zpb,zmS]; omega
 | mon a b ha hb _ _ _=>
  have h1:=(zhN ha).2.1; have h2:=(zhN hb).2.1;simp only [zhD,zpb,zmS]; omega
 | del a ha _ _ _=>
  have h1:=(zhN ha).2.1;simp only [zhD,zpb,zmS]; omega
 | abs a ha _ _=>
  have h1:=(zhN ha).2.1;simp only [zhD,zpb,zmS]; omega
 | tst f l o b hl hv hs hf=>
  have h1:∀ l:yE,(∀ w∈l,zX w.Ann<=4096)->zdI l<=l.length*4097:=λl=>by
   induction l with
   | nil=>intro _; rw [zmS]; omega
   | cons w r ih=>
    intro h;have:=h w (by simp)
    have:=ih λw hw=>h w (by simp [hw])
    rw [zjC,qf,Nat.add_mul]; omega
  have:=h1 l λw hw=>(zhN (hv w hw).1).2.1
  have:=Nat.mul_le_mul hi (Nat.le_refl 4097);simp only [zpb] at this ⊢; omega
section
variable (gA:At->Bool×ByteArray) (gF:yD->Bool×ByteArray) (gT:yC->Bool×ByteArray)
end
def hd (S:List UInt8) (u:List UInt8):Prop:=∀ c,u.head? =some c->c∈S
theorem zpC {S:List UInt8} {c:UInt8} {u:List UInt8} (h:c∈S):hd S (c::u):=λd hd=>by
 simp only [List.head?_cons,qa] at hd; subst hd; exact h
theorem hd.mono {S T:List UInt8} {u:List UInt8} (h:hd S u) (hs:∀ c∈S,c∈T):hd T u:=λc hc=>hs c (h c hc)
theorem hd.noDig {S:List UInt8} {u:List UInt8} (h:hd S u) (hs:∀ c∈S,zrE c=false):noDig u:=λc hc=>hs c (h c hc)
theorem hd.ne {S:List UInt8} {u:List UInt8} (h:hd S u) {c:UInt8} (hs:c∉S):u.head? ≠some c:=λe=>hs (h c e)
theorem hd.cons_ne {S:List UInt8} {u:List UInt8} {c:UInt8} (h:hd S (c::u)) (hs:c∉S):False:=hs (h c rfl)
theorem zNF {α:Type} (tx:α->List UInt8) (S0:List UInt8) (s0:UInt8) (sr:List UInt8) (P:α->Prop) (hS:s0∉S0) (hR:∀ x y,P x->P y->∀ u v,hd (s0::S0) u->hd (s0::S0) v->tx x++u=tx y++v->x=y/\u=v):
  ∀ l l':List α,l≠[]->l'≠[]->(∀ x∈l,P x)->(∀ x∈l',P x)->∀ u v,hd S0 u->hd S0 v->zqI (l.map tx) (s0::sr)++u=zqI (l'.map tx) (s0::sr)++v->l=l'/\u=v
 | [],_,h,_,_,_,_,_,_,_,_=>absurd rfl h
 | _::_,[],_,h,_,_,_,_,_,_,_=>absurd rfl h
 | [x],[y],_,_,hx,hy,u,v,hu,hv,h=>by
  have mono:∀ c∈S0,c∈s0::S0:=λc hc=>List.mem_cons_of_mem _ hc
  obtain ⟨h1,h2⟩:=hR x y (hx x (by simp)) (hy y (by simp)) u v (hu.mono mono) (hv.mono mono) h
  exact ⟨by rw [h1],h2⟩
 | [x],y::y'::r',_,_,hx,hy,u,v,hu,hv,h=>by
  have mono:∀ c∈S0,c∈s0::S0:=λc hc=>List.mem_cons_of_mem _ hc
  simp only [List.map,zqI,List.append_assoc] at h;obtain ⟨h1,h2⟩:=hR x y (hx x (by simp)) (hy y (by simp)) u _ (hu.mono mono) (zpC (by simp)) h
  rw [h2] at hu;exact (hu.cons_ne hS).elim
 | x::x'::r,[y],_,_,hx,hy,u,v,hu,hv,h=>by
  have mono:∀ c∈S0,c∈s0::S0:=λc hc=>List.mem_cons_of_mem _ hc
  simp only [List.map,zqI,List.append_assoc] at h;obtain ⟨h1,h2⟩:=hR x y (hx x (by simp)) (hy y (by simp)) _ v (zpC (by simp)) (hv.mono mono) h
  rw [<- h2] at hv;exact (hv.cons_ne hS).elim
 | x::x'::r,y::y'::r',_,_,hx,hy,u,v,hu,hv,h=>by
  have h:zqI (((x::x'::r)).map tx) (s0::sr)++u=zqI (((y::y'::r')).map tx) (s0::sr)++v:=h;simp only [List.map,zqI,List.append_assoc] at h;obtain ⟨h1,h2⟩:=hR x y (hx x (by simp)) (hy y (by simp)) _ _ (zpC (by simp)) (zpC (by simp)) h
  have h3:=(List.append_right_inj sr).1 (List.cons.inj h2).2;obtain ⟨h4,h5⟩:=zNF tx S0 s0 sr P hS hR (x'::r) (y'::r') (by simp) (by simp) (λz hz=>hx z (List.mem_cons_of_mem _ hz)) (λz hz=>hy z (List.mem_cons_of_mem _ hz)) u v hu hv h3
  exact ⟨by rw [h1,h4],h5⟩
theorem z8P {t:ByteArray} (h:t.size=0):t=ByteArray.mk #[]:=zG5 (by
 have:t.data.toList.length=0:=by rw [Array.length_toList]; exact h
 rw [List.length_eq_zero_iff.1 this])
theorem z9U {x y:Value} (hx:zxJ x=true) (hy:zxJ y=true) (rx:rng x.Int) (ry:rng y.Int) {u v:List UInt8} (hu:hd [58,93] u) (hv:hd [58,93] v) (h:txV x++u=txV y++v):x=y/\u=v:=by
 have d1:∀ c∈([58,93]:List UInt8),zrE c=false:=by decide
 obtain ⟨cx,sx,ex,dx⟩:=z7k rx.1 rx.2;obtain ⟨cy,sy,ey,dy⟩:=z7k ry.1 ry.2
 have nd:∀ c:UInt8,c=45\/zrE c=true->c≠39/\c≠84/\c≠70:=λc hc=>by
  refine ⟨?_, ?_, ?_⟩ <;>(intro e; subst e; revert hc; decide)
 obtain ⟨kx,ix,tx⟩:=x;obtain ⟨ky,iy,ty⟩:=y;simp only [zxJ,Bool.or_eq_true,qc,beq_iff_eq,qe] at hx hy;simp only at rx ry ex ey;rcases hx with (⟨rfl,hx⟩ | ⟨⟨rfl,rfl⟩,hx⟩) | ⟨⟨rfl,hx⟩,hx2⟩
 ·have:=z8P hx; subst this;rcases hy with (⟨rfl,hy⟩ | ⟨⟨rfl,rfl⟩,hy⟩) | ⟨⟨rfl,hy⟩,hy2⟩
  ·have:=z8P hy; subst this;simp only [txV,if_true] at h;obtain ⟨h1,h2⟩:=zvU rx ry (hu.noDig d1) (hv.noDig d1) h;exact ⟨by rw [h1],h2⟩
  ·simp only [txV,if_true,show ¬ (1:Int)=0 by decide,if_false,ex,List.cons_append,qj] at h
   exact absurd h.1 (nd cx dx).1
  ·rcases hy2 with rfl | rfl
   ·simp only [txV,if_true,show ¬ (2:Int)=0 by decide,show ¬ (2:Int)=1 by decide,show ¬ (0:Int)=1 by decide,if_false,ex,List.cons_append,qj] at h
    exact absurd h.1 (nd cx dx).2.2
   ·simp only [txV,if_true,show ¬ (2:Int)=0 by decide,show ¬ (2:Int)=1 by decide,if_false,ex,List.cons_append,qj] at h
    exact absurd h.1 (nd cx dx).2.1
 ·rcases hy with (⟨rfl,hy⟩ | ⟨⟨rfl,rfl⟩,hy⟩) | ⟨⟨rfl,hy⟩,hy2⟩
  ·simp only [txV,if_true,show ¬ (1:Int)=0 by decide,if_false,ey,List.cons_append,qj] at h
   exact absurd h.1.symm (nd cy dy).1
  ·simp only [txV,if_true,show ¬ (1:Int)=0 by decide,if_false,List.cons_append,qj,true_and,List.append_assoc,List.nil_append] at h
   obtain ⟨h1,h2⟩:=z2i _ _ u v (hu.ne (by decide)) (hv.ne (by decide)) h
   exact ⟨by rw [zG5 h1],h2⟩
  ·rcases hy2 with rfl | rfl <;>simp [txV] at h
 ·have:=z8P hx; subst this;rcases hy with (⟨rfl,hy⟩ | ⟨⟨rfl,rfl⟩,hy⟩) | ⟨⟨rfl,hy⟩,hy2⟩
  ·rcases hx2 with rfl | rfl
   ·simp only [txV,if_true,show ¬ (2:Int)=0 by decide,show ¬ (2:Int)=1 by decide,show ¬ (0:Int)=1 by decide,if_false,ey,List.cons_append,qj] at h
    exact absurd h.1.symm (nd cy dy).2.2
   ·simp only [txV,if_true,show ¬ (2:Int)=0 by decide,show ¬ (2:Int)=1 by decide,if_false,ey,List.cons_append,qj] at h
    exact absurd h.1.symm (nd cy dy).2.1
  ·rcases hx2 with rfl | rfl <;>simp [txV] at h
  ·have:=z8P hy; subst this;rcases hx2 with rfl | rfl <;>rcases hy2 with rfl | rfl <;>simp [txV] at h
   ·exact ⟨rfl,h⟩
   ·exact ⟨rfl,h⟩
theorem zbe6 {f g:Int} (hf:0<=f/\f<=3) (hg:0<=g/\g<=3) {u v:List UInt8} (h:fnT f++123::u=fnT g++123::v):f=g/\u=v:=by
 have c1:f=0\/f=1\/f=2\/f=3:=by omega
 have c2:g=0\/g=1\/g=2\/g=3:=by omega
 rcases c1 with rfl | rfl | rfl | rfl <;>rcases c2 with rfl | rfl | rfl | rfl <;>simp [fnT] at h <;>exact ⟨rfl,h⟩
theorem zbei {f g:Int} (hf:5<=f/\f<=10) (hg:5<=g/\g<=10) {u v:List UInt8} (h:opT f++32::u=opT g++32::v):f=g/\u=v:=by
 have c1:f=5\/f=6\/f=7\/f=8\/f=9\/f=10:=by omega
 have c2:g=5\/g=6\/g=7\/g=8\/g=9\/g=10:=by omega
 rcases c1 with rfl | rfl | rfl | rfl | rfl | rfl <;>rcases c2 with rfl | rfl | rfl | rfl | rfl | rfl <;>simp [opT] at h <;>exact ⟨rfl,h⟩
def SN:List UInt8:=[93,44,59,125]
def ST:List UInt8:=32::SN
def SF:List UInt8:=42::ST
def SA:List UInt8:=94::SF
theorem z3S:∀ c∈SA,zrE c=false:=by decide
theorem zbhI:∀ c∈ST,c∈SA:=by decide
theorem z3K:∀ c∈SF,c∈SA:=by decide
def RdN (V:yC->Bool):Prop:=∀ a b,V a=true->V b=true->zis a->zis b->∀ u v,hd SN u->hd SN v->txN a++u=txN b++v->a=b/\u=v
def RdA (V:yC->Bool):Prop:=∀ x y,zij V x=true->zij V y=true->zjX x->zjX y->∀ u v,hd SA u->hd SA v->txA x++u=txA y++v->x=y/\u=v
theorem zber {V:yC->Bool} {x:At} (h:zij V x=true):∃ c r,txA x=c::r/\zrE c=false:=by
 cases zjO.1 h with
 | var r h=>rw [txA]; exact ⟨116,_,rfl,rfl⟩
 | mon a b _ _ _ _ _=>rw [txA]; exact ⟨109,_,rfl,rfl⟩
 | del a _ _ _ _=>rw [txA]; exact ⟨100,_,rfl,rfl⟩
 | abs a _ _ _=>rw [txA]; exact ⟨97,_,rfl,rfl⟩
 | tst f l o b _ _ _ _=>rw [txA]; exact ⟨116,_,rfl,rfl⟩
theorem zbd2 {V:yC->Bool} (hV:RdN V):RdA V:=by
 intro x y hx hy wx wy u v hu hv h;have Wx:=zKe wx;have Wy:=zKe wy;have k0:¬ (1:Int)=0:=by decide
 have c44:∀ z,hd SN (44::z):=λz=>zpC (by decide)
 have c93:∀ z,hd SN (93::z):=λz=>zpC (by decide)
 have tE:∀ (r:RowID),zJw r=true->rng r.Table->∀ w z,zkR r.Table++w≠101::z:=λr hr hg w z e=>by
  simp only [zJw,qc,qe] at hr;obtain ⟨d1,d2⟩:=zbde (show 0<=r.Table by omega) hg.2
  cases hl:zkR r.Table with
  | nil=>exact d2 hl
  | cons c s=>
   rw [hl] at e d1;simp only [List.cons_append,qj] at e;rw [List.all_cons,e.1] at d1;revert d1; simp [zrE]
 cases zjO.1 hx with
 | var r hr=>
  have rr:=Wx.2.2.2.2.1;simp only at rr;cases zjO.1 hy with
  | var r' hr'=>
   have rr':=Wy.2.2.2.2.1;simp only at rr';rw [txA,txA] at h;simp only [zfV,if_true,txR,List.cons_append,qj,true_and,List.append_assoc] at h;obtain ⟨h1,h2⟩:=zvU (zuG rr.1) (zuG rr'.1) (λc hc=>by simp only [List.head?_cons,qa] at hc; subst hc; rfl) (λc hc=>by simp only [List.head?_cons,qa] at hc; subst hc; rfl) h
   simp only [qj,true_and] at h2;obtain ⟨h3,h4⟩:=zvU (zuG rr.2) (zuG rr'.2) (hu.noDig z3S) (hv.noDig z3S) h2;obtain ⟨t,s⟩:=r; obtain ⟨t',s'⟩:=r';simp only at h1 h3;exact ⟨by rw [h1,h3],h4⟩
  | tst f l o b _ _ _ _=>
   rw [txA,txA] at h;simp only [zfV,if_true,txR,show ¬ (4:Int)=0 by decide,show ¬ (4:Int)=1 by decide,show ¬ (4:Int)=2 by decide,show ¬ (4:Int)=3 by decide,if_false,List.cons_append,qj,true_and,List.append_assoc] at h
   exact absurd h (tE r hr (zuG rr.1) _ _)
  | mon a b _ _ _ _ _=>rw [txA,txA] at h; simp [zfV,txR] at h
  | del a _ _ _ _=>rw [txA,txA] at h; simp [zfV,txR] at h
  | abs a _ _ _=>rw [txA,txA] at h; simp [zfV,txR] at h
 | mon a b ha hb _ _ _=>
  cases zjO.1 hy with
  | mon a' b' ha' hb' _ _ _=>
   rw [txA,txA,zB2,zB2] at h;simp only [zfV,if_true,k0,if_false,List.map,List.getD_cons_zero,List.getD_cons_succ,List.cons_append,qj,true_and,List.append_assoc,List.nil_append] at h;have wa:=λz hz=>(zo7 Wx.1.1 z hz).1
   have wb:=λz hz=>(zo7 Wy.1.1 z hz).1
   obtain ⟨h1,h2⟩:=hV a a' ha ha' (wa a (by simp)) (wb a' (by simp)) _ _ (c44 _) (c44 _) h
   simp only [qj,true_and] at h2;obtain ⟨h3,h4⟩:=hV b b' hb hb' (wa b (by simp)) (wb b' (by simp)) _ _ (c93 _) (c93 _) h2
   simp only [qj,true_and] at h4;exact ⟨by rw [h1,h3],h4⟩
  | var r h=>rw [txA,txA] at h; simp [zfV,txR] at h
  | del a _ _ _ _=>rw [txA,txA] at h; simp [zfV,txR] at h
  | abs a _ _ _=>rw [txA,txA] at h; simp [zfV,txR] at h
  | tst f l o b _ _ _ _=>rw [txA,txA] at h; simp [zfV,txR] at h
 | del a ha _ _ _=>
  cases zjO.1 hy with
  | del a' ha' _ _ _=>
   rw [txA,txA,zB2,zB2] at h;simp only [zfV,if_true,show ¬ (2:Int)=0 by decide,show ¬ (2:Int)=1 by decide,if_false,List.map,List.getD_cons_zero,List.cons_append,qj,true_and,List.append_assoc,List.nil_append] at h
   have wa:=λz hz=>(zo7 Wx.1.1 z hz).1
   have wb:=λz hz=>(zo7 Wy.1.1 z hz).1
   obtain ⟨h1,h2⟩:=hV a a' ha ha' (wa a (by simp)) (wb a' (by simp)) _ _ (c93 _) (c93 _) h
   simp only [qj,true_and] at h2;exact ⟨by rw [h1],h2⟩
  | var r h=>rw [txA,txA] at h; simp [zfV,txR] at h
  | mon a b _ _ _ _ _=>rw [txA,txA] at h; simp [zfV,txR] at h
  | abs a _ _ _=>rw [txA,txA] at h; simp [zfV,txR] at h
  | tst f l o b _ _ _ _=>rw [txA,txA] at h; simp [zfV,txR] at h
 | abs a ha _ _=>
  cases zjO.1 hy with
  | abs a' ha' _ _=>
   rw [txA,txA,zB2,zB2] at h;simp only [zfV,if_true,show ¬ (3:Int)=0 by decide,show ¬ (3:Int)=1 by decide,show ¬ (3:Int)=2 by decide,if_false,List.map,List.getD_cons_zero,List.cons_append,qj,true_and,List.append_assoc,List.nil_append] at h
   have wa:=λz hz=>(zo7 Wx.1.1 z hz).1
   have wb:=λz hz=>(zo7 Wy.1.1 z hz).1
   obtain ⟨h1,h2⟩:=hV a a' ha ha' (wa a (by simp)) (wb a' (by simp)) _ _ (c93 _) (c93 _) h
   simp only [qj,true_and] at h2;exact ⟨by rw [h1],h2⟩
  | var r h=>rw [txA,txA] at h; simp [zfV,txR] at h
  | mon a b _ _ _ _ _=>rw [txA,txA] at h; simp [zfV,txR] at h
  | del a _ _ _ _=>rw [txA,txA] at h; simp [zfV,txR] at h
  | tst f l o b _ _ _ _=>rw [txA,txA] at h; simp [zfV,txR] at h
 | tst f l o b hl hi hs hf=>
  cases zjO.1 hy with
  | tst f' l' o' b' hl' hi' hs' hf'=>
   obtain ⟨⟨f0,f3,o5,o10⟩,hb,hit⟩:=zC2 hf;obtain ⟨⟨f0',f3',o5',o10'⟩,hb',hit'⟩:=zC2 hf';have wl:=zxD Wx.2.1.1;have wl':=zxD Wy.2.1.1;rw [txA,txA,z2l,z2l] at h;simp only [zfV,show ¬ (4:Int)=0 by decide,show ¬ (4:Int)=1 by decide,show ¬ (4:Int)=2 by decide,show ¬ (4:Int)=3 by decide,if_false,List.cons_append,qj,true_and,List.append_assoc,List.nil_append] at h
   obtain ⟨h1,h2⟩:=zbe6 ⟨f0,f3⟩ ⟨f0',f3'⟩ h
   obtain ⟨h3,h4⟩:=zNF txI [125] 59 [32] (λw=>(V w.Ann=true/\zis w.Ann)/\zxJ w.Value=true/\rng w.Value.Int) (by decide) (λx y px py u v hu hv e=>by
    simp only [txI,List.append_assoc,List.cons_append,List.nil_append] at e;obtain ⟨e1,e2⟩:=z9U px.2.1 py.2.1 px.2.2 py.2.2 (zpC (by decide)) (zpC (by decide)) e
    simp only [qj,true_and] at e2;obtain ⟨e3,e4⟩:=hV _ _ px.1.1 py.1.1 px.1.2 py.1.2 u v (hu.mono (by decide)) (hv.mono (by decide)) e2
    obtain ⟨vx,ax⟩:=x; obtain ⟨vy,ay⟩:=y;simp only at e1 e3;exact ⟨by rw [e1,e3],e4⟩) l l' hl hl' (λw hw=>⟨⟨(hi w hw).1,(wl w hw).2.1⟩,(hit w hw).1,zuG (wl w hw).1.2.1⟩) (λw hw=>⟨⟨(hi' w hw).1,(wl' w hw).2.1⟩,(hit' w hw).1,zuG (wl' w hw).1.2.1⟩) _ _ (zpC (by decide)) (zpC (by decide)) h2
   simp only [qj,true_and] at h4;obtain ⟨h5,h6⟩:=zbei ⟨o5,o10⟩ ⟨o5',o10'⟩ h4;obtain ⟨h7,h8⟩:=z9U hb hb' (zuG Wx.2.2.1.2.1) (zuG Wy.2.2.1.2.1) (zpC (by decide)) (zpC (by decide)) h6
   simp only [qj,true_and] at h8;exact ⟨by rw [h1,h3,h5,h7],h8⟩
  | var r hr=>
   have rr:=Wy.2.2.2.2.1;simp only at rr;rw [txA,txA] at h;simp only [zfV,if_true,txR,show ¬ (4:Int)=0 by decide,show ¬ (4:Int)=1 by decide,show ¬ (4:Int)=2 by decide,show ¬ (4:Int)=3 by decide,if_false,List.cons_append,qj,true_and,List.append_assoc] at h
   exact absurd h.symm (tE r hr (zuG rr.1) _ _)
  | mon a b _ _ _ _ _=>rw [txA,txA] at h; simp [zfV,txR] at h
  | del a _ _ _ _=>rw [txA,txA] at h; simp [zfV,txR] at h
  | abs a _ _ _=>rw [txA,txA] at h; simp [zfV,txR] at h
def gF (V:yC->Bool) (f:Fc):Prop:=zij V f.At=true/\zjX f.At/\rng f.Exp
theorem zbhA {V:yC->Bool} (hA:RdA V) {f g:Fc} (hf:gF V f) (hg:gF V g) {u v:List UInt8} (hu:hd SF u) (hv:hd SF v) (h:txF f++u=txF g++v):f=g/\u=v:=by
 obtain ⟨x,e⟩:=f; obtain ⟨y,e'⟩:=g;obtain ⟨a1,a2,a3⟩:=hf; obtain ⟨b1,b2,b3⟩:=hg;simp only at a1 a2 a3 b1 b2 b3;have c94:∀ z,hd SA (94::z):=λz=>zpC (by decide)
 have n94:(94:UInt8)∉SF:=by decide
 have dg:∀ c∈SF,zrE c=false:=λc hc=>z3S c (z3K c hc)
 unfold txF z8J at h;simp only at h;by_cases h1:e=1
 ·by_cases h2:e'=1
  ·rw [if_pos h1,if_pos h2] at h;obtain ⟨q1,q2⟩:=hA x y a1 b1 a2 b2 u v (hu.mono z3K) (hv.mono z3K) h;exact ⟨by rw [q1,h1,h2],q2⟩
  ·rw [if_pos h1,if_neg h2,List.append_assoc] at h;obtain ⟨q1,q2⟩:=hA x y a1 b1 a2 b2 u _ (hu.mono z3K) (c94 _) h;rw [q2] at hu;exact (hu.cons_ne n94).elim
 ·by_cases h2:e'=1
  ·rw [if_neg h1,if_pos h2,List.append_assoc] at h;obtain ⟨q1,q2⟩:=hA x y a1 b1 a2 b2 _ v (c94 _) (hv.mono z3K) h;rw [<- q2] at hv;exact (hv.cons_ne n94).elim
  ·rw [if_neg h1,if_neg h2,List.append_assoc,List.append_assoc] at h;obtain ⟨q1,q2⟩:=hA x y a1 b1 a2 b2 _ _ (c94 _) (c94 _) h;simp only [List.cons_append,qj,true_and] at q2;obtain ⟨q3,q4⟩:=zvU a3 b3 (hu.noDig dg) (hv.noDig dg) q2;exact ⟨by rw [q1,q3],q4⟩
theorem z6J {V:yC->Bool} (hA:RdA V) {l l':yD} (hl:l≠[]) (hl':l'≠[]) (h1:∀ f∈l,gF V f) (h2:∀ f∈l',gF V f) {u v:List UInt8} (hu:hd ST u) (hv:hd ST v) (h:txL l++u=txL l'++v):l=l'/\u=v:=by
 unfold txL at h;rw [zLO,zLO] at h;exact zNF txF ST 42 [] (gF V) (by decide) (λx y px py u v hu hv e=>zbhA hA px py hu hv e) l l' hl hl' h1 h2 u v hu hv h
theorem zFa {V:yC->Bool} {l:yD} (hl:l≠[]) (h:∀ f∈l,gF V f):∃ c r,txL l=c::r/\zrE c=false:=by
 cases l with
 | nil=>exact absurd rfl hl
 | cons f r=>
  obtain ⟨c,s,e,hc⟩:=zber (h f (by simp)).1
  have:∃ s',txF f=c::s':=by
   unfold txF z8J;split
   ·exact ⟨s,e⟩
   ·exact ⟨_,by rw [e]; rfl⟩
  obtain ⟨s',e'⟩:=this;unfold txL;rw [zLO];cases r with
  | nil=>exact ⟨c,s',by simp only [List.map,zqI]; exact e',hc⟩
  | cons g r=>exact ⟨c,_,by simp only [List.map,zqI]; rw [e']; rfl,hc⟩
def gT (V:yC->Bool) (t:Term):Prop:=(1<=t.Cf/\t.Cf<=9223372036854775807)/\∀ f∈t.Fs,gF V f
theorem z59 {n:Int} (h:1<=n) (h2:n<=9223372036854775807):∃ c r,zkR n=c::r/\zrE c=true/\c≠48:=by
 have e:zkR n=Lib.decDigits n.toNat:=by rw [z1P (by omega) h2,Lib.itoa,if_neg (by omega)]
 obtain ⟨a1,a2,a3,a4⟩:=zYH n.toNat n.toNat (Nat.le_refl _);rw [e];cases hl:Lib.decDigits n.toNat with
 | nil=>exact absurd hl a3
 | cons c r=>
  rw [hl] at a1 a4;rw [List.all_cons,qc] at a1;exact ⟨c,r,rfl,a1.1,λe=>a4 (by omega) (by rw [e]; rfl)⟩
theorem z9f {l:yD}:zR0 l=[]↔l=[]:=by rw [zLO,List.map_eq_nil_iff]
theorem z9E (t:Term):txT t=if t.Fs=[] then zkR t.Cf else if t.Cf=1 then txL t.Fs else zkR t.Cf++42::txL t.Fs:=by
 unfold txT z9x;by_cases h:t.Fs=[]
 ·rw [if_pos (z9f.2 h),if_pos h]
 ·rw [if_neg (λe=>h (z9f.1 e)),if_neg h]; rfl
theorem zbg4 {V:yC->Bool} (hA:RdA V) {s t:Term} (hs:gT V s) (ht:gT V t) {u v:List UInt8} (hu:hd ST u) (hv:hd ST v) (h:txT s++u=txT t++v):s=t/\u=v:=by
 obtain ⟨c,l⟩:=s; obtain ⟨c',l'⟩:=t;obtain ⟨⟨c1,c2⟩,h1⟩:=hs; obtain ⟨⟨c1',c2'⟩,h2⟩:=ht;simp only at c1 c2 h1 c1' c2' h2;have dg:∀ c∈ST,zrE c=false:=λc hc=>z3S c (zbhI c hc)
 have n42:(42:UInt8)∉ST:=by decide
 have d42:∀ z,noDig (42::z):=λz c hc=>by simp only [List.head?_cons,qa] at hc; subst hc; rfl
 have rc:rng c:=⟨by omega,c2⟩
 have rc':rng c':=⟨by omega,c2'⟩
 obtain ⟨d,r,e,hd,_⟩:=z59 c1 c2;obtain ⟨d',r',e',hd',_⟩:=z59 c1' c2';rw [z9E,z9E] at h;simp only at h;by_cases l0:l=[]
 ·rw [if_pos l0] at h;by_cases l0':l'=[]
  ·rw [if_pos l0'] at h;obtain ⟨q1,q2⟩:=zvU rc rc' (hu.noDig dg) (hv.noDig dg) h;exact ⟨by rw [q1,l0,l0'],q2⟩
  ·rw [if_neg l0'] at h;by_cases k':c'=1
   ·rw [if_pos k'] at h;obtain ⟨d2,r2,e2,hd2⟩:=zFa l0' h2;rw [e,e2] at h;simp only [List.cons_append,qj] at h;rw [h.1,hd2] at hd; cases hd
   ·rw [if_neg k',List.append_assoc] at h;obtain ⟨q1,q2⟩:=zvU rc rc' (hu.noDig dg) (d42 _) h;rw [q2] at hu;exact (hu.cons_ne n42).elim
 ·rw [if_neg l0] at h;by_cases k:c=1
  ·rw [if_pos k] at h;obtain ⟨d2,r2,e2,hd2⟩:=zFa l0 h1;by_cases l0':l'=[]
   ·rw [if_pos l0',e2,e'] at h;simp only [List.cons_append,qj] at h;rw [<- h.1,hd2] at hd'; cases hd'
   ·rw [if_neg l0'] at h;by_cases k':c'=1
    ·rw [if_pos k'] at h;obtain ⟨q1,q2⟩:=z6J hA l0 l0' h1 h2 hu hv h;exact ⟨by rw [q1,k,k'],q2⟩
    ·rw [if_neg k',e2,e'] at h;simp only [List.cons_append,qj] at h;rw [<- h.1,hd2] at hd'; cases hd'
  ·rw [if_neg k,List.append_assoc] at h;by_cases l0':l'=[]
   ·rw [if_pos l0'] at h;obtain ⟨q1,q2⟩:=zvU rc rc' (d42 _) (hv.noDig dg) h;rw [<- q2] at hv;exact (hv.cons_ne n42).elim
   ·rw [if_neg l0'] at h;by_cases k':c'=1
    ·rw [if_pos k'] at h;obtain ⟨d2,r2,e2,hd2⟩:=zFa l0' h2;rw [e,e2] at h;simp only [List.cons_append,qj] at h;rw [h.1,hd2] at hd; cases hd
    ·rw [if_neg k',List.append_assoc] at h;obtain ⟨q1,q2⟩:=zvU rc rc' (d42 _) (d42 _) h;simp only [List.cons_append,qj,true_and] at q2;obtain ⟨q3,q4⟩:=z6J hA l0 l0' h1 h2 hu hv q2;exact ⟨by rw [q1,q3],q4⟩
theorem zbeH {V:yC->Bool} {t:Term} (ht:gT V t):∃ c r,txT t=c::r/\c≠48:=by
 obtain ⟨⟨c1,c2⟩,h1⟩:=ht;obtain ⟨d,r,e,hd,h48⟩:=z59 c1 c2;rw [z9E];by_cases l0:t.Fs=[]
 ·rw [if_pos l0]; exact ⟨d,r,e,h48⟩
 ·rw [if_neg l0];split
  ·obtain ⟨d2,r2,e2,hd2⟩:=zFa l0 h1;exact ⟨d2,r2,e2,λe=>by rw [e] at hd2; revert hd2; decide⟩
  ·exact ⟨d,_,by rw [e]; rfl,h48⟩
theorem zbgP {V:yC->Bool} (hA:RdA V) {a b:yC} (ha:∀ t∈a,gT V t) (hb:∀ t∈b,gT V t) {u v:List UInt8} (hu:hd SN u) (hv:hd SN v) (h:txN a++u=txN b++v):a=b/\u=v:=by
 have en:∀ z:yC,z≠[]->txN z=zqI (z.map txT) [32,43,32]:=λz hz=>by
  unfold txN z4J; rw [z94,if_neg (by simpa using hz)]
 have e0:txN []=[48]:=by unfold txN z4J; rw [zYx,if_pos rfl]
 have h48:∀ z:yC,z≠[]->(∀ t∈z,gT V t)->∃ c r,txN z=c::r/\c≠48:=λz hz hg=>by
  rw [en z hz];cases z with
  | nil=>exact absurd rfl hz
  | cons t r=>
   obtain ⟨c,s,e,hc⟩:=zbeH (hg t (by simp))
   cases r with
   | nil=>exact ⟨c,s,by simp only [List.map,zqI]; exact e,hc⟩
   | cons t' r=>exact ⟨c,_,by simp only [List.map,zqI]; rw [e]; rfl,hc⟩
 by_cases a0:a=[]
 ·by_cases b0:b=[]
  ·rw [a0,b0] at h;exact ⟨by rw [a0,b0],List.append_cancel_left h⟩
  ·obtain ⟨c,r,e,hc⟩:=h48 b b0 hb;rw [a0,e0,e] at h;simp only [List.cons_append,qj] at h;exact absurd h.1.symm hc
 ·by_cases b0:b=[]
  ·obtain ⟨c,r,e,hc⟩:=h48 a a0 ha;rw [b0,e0,e] at h;simp only [List.cons_append,qj] at h;exact absurd h.1 hc
  ·rw [en a a0,en b b0] at h;exact zNF txT SN 32 [43,32] (gT V) (by decide) (λx y px py u v hu hv e=>zbg4 hA px py hu hv e) a b a0 b0 ha hb u v hu hv h
theorem zbeM:∀ m,RdN (zde m)/\RdA (zde m):=by
 intro m;induction m with
 | zero=>
  have:RdN (zde 0):=λa b ha=>by cases ha
  exact ⟨this,zbd2 this⟩
 | succ m ih=>
  have:RdN (zde (m+1)):=λa b ha hb wa wb u v hu hv h=>by
   have key:∀ z,zde (m+1) z=true->zis z->∀ t∈z,gT (zde m) t:=λz hz wz t ht=>by
    obtain ⟨⟨c1,c2⟩,hok⟩:=zHr hz ht;have hwt:=zwV (zDs (zzw wz t ht)).2.1;exact ⟨⟨c1,by omega⟩,λf hf=>⟨(zDf hok hf).2,(zyY (hwt f hf)).1,zuG (zyY (hwt f hf)).2⟩⟩
   exact zbgP ih.2 (key a ha wa) (key b hb wb) hu hv h
  exact ⟨this,zbd2 this⟩
theorem zbfx {m:Nat} {l l':yD} (h1:∀ f∈l,gF (zde m) f) (h2:∀ f∈l',gF (zde m) f) (h:txL l=txL l'):l=l':=by
 have e0:txL []=[]:=by unfold txL; rw [zR0]; rfl
 by_cases l0:l=[]
 ·by_cases l0':l'=[]
  ·rw [l0,l0']
  ·obtain ⟨c,r,e,_⟩:=zFa l0' h2;rw [l0,e0,e] at h; cases h
 ·by_cases l0':l'=[]
  ·obtain ⟨c,r,e,_⟩:=zFa l0 h1;rw [l0',e0,e] at h; cases h
  ·exact (z6J (zbeM m).2 l0 l0' h1 h2 (u:=[]) (v:=[]) (λc hc=>by cases hc) (λc hc=>by cases hc) (by rw [h])).1
def zYU (a b:Int):Int:=if 1152921504606846976<a+b then 1152921504606846976 else a+b
def cT (x y:Term):Int:=zbO (zb0 x.Fs) (zb0 y.Fs)
theorem z6L {x y:Term} (h:cT x y=0):x.Fs=y.Fs:=zBD _ _ (zKv _ _ h)
theorem zQs {x y:Term} (h:x.Fs=y.Fs):cT x y=0:=by unfold cT; rw [h]; exact zXo _
def zuv (t:Term):yC->yC
 | []=>[t]
 | x::r=>if cT x t<0 then x::zuv t r else if cT x t=0 then ⟨zYU x.Cf t.Cf,t.Fs⟩::r else t::x::r
abbrev Srs (l:yC):Prop:=l.Pairwise λx y=>cT x y<0
abbrev Dst (l:yC):Prop:=l.Pairwise λx y=>x.Fs≠y.Fs
theorem Srs.dst {l:yC} (h:Srs l):Dst l:=h.imp λ{x y} hxy e=>by rw [zQs e] at hxy; omega
def SM (l:yC) (t y:Term):Prop:=(y∈l/\y.Fs≠t.Fs)\/(y.Fs=t.Fs/\((∃ x∈l,x.Fs=t.Fs/\y.Cf=zYU x.Cf t.Cf)\/((∀ x∈l,x.Fs≠t.Fs)/\y.Cf=t.Cf)))
theorem zbbq {x y:Term} (h1:x.Cf=y.Cf) (h2:x.Fs=y.Fs):x=y:=by cases x; cases y; simp_all
theorem zS9 {x y z:Term} (h1:cT x y<0) (h2:cT y z<0):cT x z<0:=z7P h1 h2
theorem zbbU (x y:Term):cT y x= - cT x y:=zHe _ _
theorem zbc1 {x t y:Term} {r:yC} (hx:x.Fs≠t.Fs) (hr:∀ z∈r,x.Fs≠z.Fs):SM (x::r) t y↔y=x\/SM r t y:=by
 unfold SM;constructor
 ·rintro (⟨h1,h2⟩ | ⟨h1,⟨z,hz,h2,h3⟩ | ⟨h2,h3⟩⟩)
  ·rcases qd.1 h1 with rfl | h1
   ·exact .inl rfl
   ·exact .inr (.inl ⟨h1,h2⟩)
  ·rcases qd.1 hz with rfl | hz
   ·exact absurd h2 hx
   ·exact .inr (.inr ⟨h1,.inl ⟨z,hz,h2,h3⟩⟩)
  ·exact .inr (.inr ⟨h1,.inr ⟨λz hz=>h2 z (by simp [hz]),h3⟩⟩)
 ·rintro (rfl | ⟨h1,h2⟩ | ⟨h1,⟨z,hz,h2,h3⟩ | ⟨h2,h3⟩⟩)
  ·exact .inl ⟨by simp,hx⟩
  ·exact .inl ⟨by simp [h1],h2⟩
  ·exact .inr ⟨h1,.inl ⟨z,by simp [hz],h2,h3⟩⟩
  ·exact .inr ⟨h1,.inr ⟨λz hz=>by
    rcases qd.1 hz with rfl | hz
    ·exact hx
    ·exact h2 z hz,h3⟩⟩
theorem zbbE {t y:Term} {l:yC} (h:∀ z∈l,z.Fs≠t.Fs):SM l t y↔y=t\/y∈l:=by
 unfold SM;constructor
 ·rintro (⟨h1,h2⟩ | ⟨h1,⟨z,hz,h2,h3⟩ | ⟨h2,h3⟩⟩)
  ·exact .inr h1
  ·exact absurd h2 (h z hz)
  ·exact .inl (zbbq h3 h1)
 ·rintro (rfl | h1)
  ·exact .inr ⟨rfl,.inr ⟨h,rfl⟩⟩
  ·exact .inl ⟨h1,h y h1⟩
theorem zbgV {x t y:Term} {r:yC} (hx:x.Fs=t.Fs) (hr:∀ z∈r,z.Fs≠t.Fs):SM (x::r) t y↔y=⟨zYU x.Cf t.Cf,t.Fs⟩\/y∈r:=by
 unfold SM;constructor
 ·rintro (⟨h1,h2⟩ | ⟨h1,⟨z,hz,h2,h3⟩ | ⟨h2,h3⟩⟩)
  ·rcases qd.1 h1 with rfl | h1
   ·exact absurd hx h2
   ·exact .inr h1
  ·rcases qd.1 hz with rfl | hz
   ·exact .inl (zbbq h3 h1)
   ·exact absurd h2 (hr z hz)
  ·exact absurd hx (h2 x (by simp))
 ·rintro (rfl | h1)
  ·exact .inr ⟨rfl,.inl ⟨x,by simp,hx,rfl⟩⟩
  ·exact .inl ⟨by simp [h1],hr y h1⟩
theorem zYV {t y:Term}:∀ {l:yC},Srs l->(y∈zuv t l↔SM l t y)
 | [],_=>by rw [zbbE (by simp)]; simp [zuv]
 | x::r,h=>by
  have hc:=qi.1 h;have hd:=qi.1 h.dst;unfold zuv;by_cases h1:cT x t<0
  ·rw [if_pos h1,qd,zbc1 (λe=>by rw [zQs e] at h1; omega) hd.1,zYV hc.2]
  ·rw [if_neg h1];by_cases h2:cT x t=0
   ·rw [if_pos h2,List.mem_cons,zbgV (z6L h2) λz hz e=>by
     have:=hc.1 z hz; rw [zQs ((z6L h2).trans e.symm)] at this; omega]
   ·rw [if_neg h2,zbbE λz hz e=>by
     have a:=zbbU x t;rcases qd.1 hz with rfl | hz
     ·exact h2 (zQs e)
     ·have b:=zS9 (show cT t x<0 by omega) (hc.1 z hz)
      rw [zQs e.symm] at b; omega]
    rw [qd]
theorem zYZ {t:Term}:∀ {l:yC},Srs l->Srs (zuv t l)
 | [],_=>by simp [zuv]
 | x::r,h=>by
  have hc:=qi.1 h;unfold zuv;by_cases h1:cT x t<0
  ·rw [if_pos h1];refine qi.2 ⟨λz hz=> ?_,zYZ hc.2⟩
   rcases (zYV hc.2).1 hz with ⟨h2,_⟩ | ⟨h2,_⟩
   ·exact hc.1 z h2
   ·have:cT x z=cT x t:=by unfold cT; rw [h2]
    rw [this]; exact h1
  ·rw [if_neg h1];by_cases h2:cT x t=0
   ·rw [if_pos h2];refine qi.2 ⟨λz hz=> ?_,hc.2⟩
    have:=hc.1 z hz;unfold cT at this ⊢;rw [<- z6L h2]; exact this
   ·rw [if_neg h2];have a:=zbbU x t;refine qi.2 ⟨λz hz=> ?_,h⟩
    rcases qd.1 hz with rfl | hz
    ·omega
    ·exact zS9 (show cT t x<0 by omega) (hc.1 z hz)
def zFc (a b:yC):yC:=b.foldl (λa t=>zuv t a) a
theorem z58:∀ (b a:yC),Srs a->Srs (zFc a b)
 | [],_,h=>h
 | t::r,a,h=>z58 r (zuv t a) (zYZ h)
theorem zFX {y:Term}:∀ (b a:yC),Srs a->y∈zFc a b->∃ x,(x∈a\/x∈b)/\y.Fs=x.Fs
 | [],a,_,h=>⟨y,.inl h,rfl⟩
 | t::r,a,hs,h=>by
  obtain ⟨x,hx,e⟩:=zFX r (zuv t a) (zYZ hs) h;rcases hx with hx | hx
  ·rcases (zYV hs).1 hx with ⟨h1,_⟩ | ⟨h1,_⟩
   ·exact ⟨x,.inl h1,e⟩
   ·exact ⟨t,.inr (by simp),e.trans h1⟩
  ·exact ⟨x,.inr (by simp [hx]),e⟩
theorem zbc3 {a b:Int} (ha:1<=a) (hb:1<=b):1<=zYU a b/\zYU a b<=1152921504606846976:=by
 unfold zYU;split
 ·omega
 ·omega
def cOK (t:Term):Prop:=1<=t.Cf/\t.Cf<=1152921504606846976
theorem zbcb {t:Term} (ht:cOK t):∀ {l:yC},(∀ x∈l,cOK x)->∀ x∈zuv t l,cOK x
 | [],_,x,hx=>by simp only [zuv,qh] at hx; subst hx; exact ht
 | y::r,h,x,hx=>by
  unfold zuv at hx;split at hx
  ·rcases qd.1 hx with rfl | hx
   ·exact h _ (by simp)
   ·exact zbcb ht (λz hz=>h z (by simp [hz])) x hx
  ·split at hx
   ·rcases qd.1 hx with rfl | hx
    ·exact zbc3 (h y (by simp)).1 ht.1
    ·exact h x (by simp [hx])
   ·rcases qd.1 hx with rfl | hx
    ·exact ht
    ·exact h x hx
theorem zbcr:∀ (b:yC) {a:yC},(∀ x∈a,cOK x)->(∀ x∈b,cOK x)->∀ x∈zFc a b,cOK x
 | [],a,ha,_=>ha
 | t::r,a,ha,hb=>zbcr r (zbcb (hb t (by simp)) ha) λx hx=>hb x (by simp [hx])
theorem zbbA {t:Term}:∀ (l:yC),(zuv t l).length<=l.length+1
 | []=>by simp [zuv]
 | x::r=>by
  have:=zbbA (t:=t) r;unfold zuv;split
  ·simp only [qf]; omega
  ·split <;>simp
theorem z6Q:∀ (b a:yC),(zFc a b).length<=a.length+b.length
 | [],a=>by simp [zFc]
 | t::r,a=>by
  have h1:=z6Q r (zuv t a);have h2:=zbbA (t:=t) a;show (zFc (zuv t a) r).length<=_;simp only [qf]; omega
def cF (x y:Fc):Int:=zbL (zfg x.At) (zfg y.At)
theorem zbga {x y:Fc} (h:cF x y=0):x.At=y.At:=z5o _ _ (zzY _ _ h)
theorem zbf0 (x y:Fc):cF y x= - cF x y:=zvO _ _
theorem z8m {a b c:TT} (h1:zbL a b<0) (h2:zbL b c<0):zbL a c<0:=by
 have h:=zRB a b c (by omega) (by omega)
 by_cases e:zbL a c=0
 ·have e':=zzY a c e;subst e';have:=zvO a b;omega
 ·omega
theorem zRE {x y z:Fc} (h1:cF x y<0) (h2:cF y z<0):cF x z<0:=z8m h1 h2
abbrev Srf (l:yD):Prop:=l.Pairwise λx y=>cF x y<0
def zfp:yD->yD->yD
 | [],b=>b
 | x::a,[]=>x::a
 | x::a,y::b=>if cF x y<0 then x::zfp a (y::b) else if 0<cF x y then y::zfp (x::a) b else (if x.At.Kind=3\/x.At.Kind=4 then x else ⟨x.At,x.Exp+y.Exp⟩)::zfp a b
termination_by a b=>a.length+b.length
def eOK (f:Fc):Prop:=(0<=f.At.Kind/\f.At.Kind<=4)/\(f.At.Kind=3\/f.At.Kind=4->f.Exp=1)
theorem ztr {x:Fc}:∀ {a b:yD},x∈zfp a b->∃ y,(y∈a\/y∈b)/\x.At=y.At
 | [],b,h=>⟨x,.inr (by rwa [zfp] at h),rfl⟩
 | y::a,[],h=>⟨x,.inl (by rwa [zfp] at h),rfl⟩
 | y::a,z::b,h=>by
  rw [zfp] at h;split at h
  ·rcases qd.1 h with rfl | h
   ·exact ⟨x,.inl (by simp),rfl⟩
   ·obtain ⟨w,hw,e⟩:=ztr h;rcases hw with hw | hw
    ·exact ⟨w,.inl (by simp [hw]),e⟩
    ·exact ⟨w,.inr hw,e⟩
  ·split at h
   ·rcases qd.1 h with rfl | h
    ·exact ⟨x,.inr (by simp),rfl⟩
    ·obtain ⟨w,hw,e⟩:=ztr h;rcases hw with hw | hw
     ·exact ⟨w,.inl hw,e⟩
     ·exact ⟨w,.inr (by simp [hw]),e⟩
   ·rcases qd.1 h with rfl | h
    ·exact ⟨y,.inl (by simp),by split <;>rfl⟩
    ·obtain ⟨w,hw,e⟩:=ztr h;rcases hw with hw | hw
     ·exact ⟨w,.inl (by simp [hw]),e⟩
     ·exact ⟨w,.inr (by simp [hw]),e⟩
termination_by a b=>a.length+b.length
theorem zTp:∀ (a b:yD),(zfp a b).length<=a.length+b.length
 | [],b=>by rw [zfp]; simp
 | y::a,[]=>by rw [zfp]; simp
 | y::a,z::b=>by
  rw [zfp];split
  ·have:=zTp a (z::b); simp only [qf] at this ⊢; omega
  ·split
   ·have:=zTp (y::a) b; simp only [qf] at this ⊢; omega
   ·have:=zTp a b; simp only [qf] at this ⊢; omega
termination_by a b=>a.length+b.length
theorem zRN {x:Fc} {B:Int}:∀ {a b:yD},(∀ y∈a,1<=y.Exp/\y.Exp<=B)->(∀ y∈b,1<=y.Exp/\y.Exp<=B)->x∈zfp a b->1<=x.Exp/\x.Exp<=2*B
 | [],b,ha,hb,h=>by rw [zfp] at h; have:=hb x h; omega
 | y::a,[],ha,hb,h=>by rw [zfp] at h; have:=ha x h; omega
 | y::a,z::b,ha,hb,h=>by
  have hy:=ha y (by simp)
  have hz:=hb z (by simp)
  rw [zfp] at h;split at h
  ·rcases qd.1 h with rfl | h
   ·omega
   ·exact zRN (λw hw=>ha w (by simp [hw])) hb h
  ·split at h
   ·rcases qd.1 h with rfl | h
    ·omega
    ·exact zRN ha (λw hw=>hb w (by simp [hw])) h
   ·rcases qd.1 h with rfl | h
    ·split
     ·omega
     ·simp only; omega
    ·exact zRN (λw hw=>ha w (by simp [hw])) (λw hw=>hb w (by simp [hw])) h
termination_by a b=>a.length+b.length
def z5q (a b:Int):Int:=if Int.tdiv 1152921504606846976 b<a then 1152921504606846976 else a*b
def zbch (x y:Term):Term:=⟨z5q x.Cf y.Cf,zfp x.Fs y.Fs⟩
def zw1 (a b:yC):yC:=a.flatMap λx=>b.map (zbch x)
def zJW (a b:yC):yC:=zFc [] (zw1 a b)
theorem z3A {a b:Int} (ha:1<=a/\a<=1152921504606846976) (hb:1<=b/\b<=1152921504606846976):(1<=z5q a b/\z5q a b<=1152921504606846976)/\(¬ Int.tdiv 1152921504606846976 b<a->a*b<=1152921504606846976):=by
 have h1:¬ Int.tdiv 1152921504606846976 b<a->a*b<=1152921504606846976:=λh=>by
  rw [Int.tdiv_eq_ediv_of_nonneg (by omega)] at h
  have h2:a<=1152921504606846976 / b:=by omega
  exact (Int.le_ediv_iff_mul_le (by omega)).1 h2
 refine ⟨?_,h1⟩;unfold z5q;split
 ·omega
 ·rename_i h;refine ⟨?_,h1 h⟩;have:=Int.mul_le_mul ha.1 hb.1 (by omega) (by omega)
  omega
theorem zHx {t:Term} {a b:yC} (h:t∈zw1 a b):∃ x∈a,∃ y∈b,t=zbch x y:=by
 obtain ⟨x,hx,ht⟩:=List.mem_flatMap.1 h;obtain ⟨y,hy,rfl⟩:=List.mem_map.1 ht;exact ⟨x,hx,y,hy,rfl⟩
theorem zbc4 (a b:yC):(zw1 a b).length=a.length*b.length:=by
 unfold zw1;induction a with
 | nil=>simp
 | cons x r ih=>rw [List.flatMap_cons,qg,ih,List.length_map,qf,Nat.add_mul]; omega
section
variable {α β ρ τ:Type} [Inhabited τ]
theorem zbbe (p:τ->Bool):∀ l:List τ,l.take (l.takeWhile p).length=l.takeWhile p
 | []=>rfl
 | x::r=>by
  rw [List.takeWhile_cons];cases p x with
  | true=>simp [zbbe p r]
  | false=>simp
theorem zbbF (p:τ->Bool):∀ l:List τ,l.drop (l.takeWhile p).length=l.dropWhile p
 | []=>rfl
 | x::r=>by
  rw [List.takeWhile_cons,List.dropWhile_cons];cases p x with
  | true=>simp [zbbF p r]
  | false=>simp
theorem z7F {W:α->β->Wy α β ρ} {z:ρ} (l:List τ) (p:τ->Bool) (ex:Nat->α) (ey:Nat->β) (res:Nat->ρ)
  (h:∀ i,i<l.length->∀ (H:α->β->Bool×ρ) K D,(W (ex i) (ey i)).ev H K D=bif p (l.getD i default) then H (ex (i+1)) (ey (i+1)) else K (res i))
  (he:∀ (H:α->β->Bool×ρ) K D,(W (ex l.length) (ey l.length)).ev H K D=K (res l.length)):
  ∀ n i,l.length<i+n->i<=l.length->zH W z n (ex i) (ey i)=(true,res (i+((l.drop i).takeWhile p).length))
 | 0,i,h1,h2=>by omega
 | n+1,i,h1,h2=>by
  show (W (ex i) (ey i)).ev (zH W z n) (λr=>(true,r)) (false,z)=_
  by_cases hi:i<l.length
  ·rw [h i hi,zZ hi,List.takeWhile_cons];cases hp:p (l.getD i default) with
   | false=>simp
   | true=>
    rw [cond_true,z7F l p ex ey res h he n (i+1) (by omega) (by omega)]
    simp only [if_true,qf];congr 2; omega
  ·have:i=l.length:=by omega
   subst this;rw [he,zci hi]; rfl
theorem zbcO {W:α->β->Wy α β ρ} {z:ρ} (l:List τ) (p:τ->Bool) (ex:Nat->α) (ey:Nat->β) (res:Nat->ρ)
  (h:∀ i,i<l.length->∀ (H:α->β->Bool×ρ) K D,(W (ex i) (ey i)).ev H K D=bif p (l.getD i default) then H (ex (i+1)) (ey (i+1)) else K (res i))
  (he:∀ (H:α->β->Bool×ρ) K D,(W (ex l.length) (ey l.length)).ev H K D=K (res l.length)) (n:Nat) (hn:l.length<n):
  zH W z n (ex 0) (ey 0)=(true,res (l.takeWhile p).length):=by
 have:=z7F (z:=z) l p ex ey res h he n 0 (by omega) (by omega)
 simpa using this
end
theorem zbgd {τ:Type} (l:List τ) (k:Nat):List.take (k - Int.toNat 0) (List.drop (Int.toNat 0) l)=l.take k:=by simp
theorem zbfU {τ:Type} (l:List τ) (k:Nat):List.take ((Int.ofNat l.length).toNat - k) (List.drop k l)=l.drop k:=by
 simp only [Int.ofNat_eq_natCast,Int.toNat_natCast];rw [List.take_of_length_le (by simp)]
def zbam (w:Wd):Bool:=decide (0<w.Ann.length)
def zmz (l:yE):yE:=zfo zbA (l.filter zbam)
def zbcS (op sign:Int):Bool:=bif op==5 then sign==0 else bif op==6 then sign != 0 else bif op==7 then decide (sign<0) else bif op==8 then decide (sign<=0) else bif op==9 then decide (sign>0) else decide (sign≥0)
def z6t (fn:Int) (l:yE) (op:Int) (b:Value):At:=⟨4,⟨0,0⟩,[],fn,l,op,b⟩
def z3R (fn:Int) (items:yE) (op:Int) (b:Value):yC×Int:=
 bif !(zEd fn items op b&&items.all λw=>zdM w.Ann) then ([],1) else
 bif decide (0<(zmz items).length) then zOQ (zlo (z6t fn (zmz items) op b)) else
 bif fn==0&&zbcS op (zdJ 0 b.Int) then ([⟨1,[]⟩],0) else ([],0)
theorem zJR {l:yE} {w:Wd} (h:w∈zmz l):w∈l/\w.Ann≠[]:=by
 have:=(zge _ _).mem_iff.1 h;obtain ⟨h1,h2⟩:=List.mem_filter.1 this;refine ⟨h1,λe=> ?_⟩
 rw [zbam,e] at h2; simp at h2
theorem z3g (l:yE):(zmz l).length=(l.filter zbam).length:=(zge _ _).length_eq
theorem zVN {B:Nat}:∀ l:yE,(∀ w∈l,zX w.Ann<=B)->zdI l<=l.length*(B+1)
 | [],_=>by rw [zmS]; simp
 | w::r,h=>by
  rw [zjC,qf];have h1:=h w (by simp)
  have h2:=zVN r λw hw=>h w (by simp [hw])
  rw [Nat.add_mul]; omega
theorem zbeX {fn:Int} {l:yE} {op:Int} {b:Value} (hl:l.length<=1000000) (hf:zEd fn l op b=true) (hv:(l.all λw=>zdM w.Ann)=true):zF 10 (zlo (z6t fn (zmz l) op b))/\zX (zlo (z6t fn (zmz l) op b))<=4611686018427387904:=by
 obtain ⟨_,hb,hit⟩:=zC2 hf;have hvv:∀ w∈l,zdM w.Ann=true:=λw hw=>List.all_eq_true.1 hv w hw
 have hlen:(zmz l).length<=1000000:=by rw [z3g]; exact Nat.le_trans (List.length_filter_le _ _) hl
 constructor
 ·refine zVR ⟨⟨by simp [z6t],hlen,by have:=zCD hb; simp only [z6t]; omega⟩,λy hy=>(by cases hy),λw hw=> ?_⟩
  have hm:=(zJR hw).1;exact ⟨by have:=zCD (hit w hm).1; omega,(zhN (hvv w hm)).1⟩
 ·rw [z92,zjy];have h1:zdI (zmz l)<=(zmz l).length*(4096+1):=zVN _ λw hw=>(zhN (hvv w (zJR hw).1)).2.1
  show 2+(zfb []+zdI (zmz l))<=_;rw [zpb];have:=Nat.mul_le_mul hlen (Nat.le_refl (4096+1));omega
end Go.Proofs.YtljlfiomikifjaaGreatDoor
end
