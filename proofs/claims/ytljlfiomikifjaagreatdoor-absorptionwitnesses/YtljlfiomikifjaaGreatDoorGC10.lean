/- Texts of this claim, joined (the program, its functions in plain words, and what they compute). -/
import Derived.Test.YtljlfiomikifjaaGreatDoorGC9
set_option autoImplicit false
set_option linter.unusedVariables false
set_option linter.unusedSectionVars false
set_option linter.unusedSimpArgs false
set_option maxRecDepth 1000000
set_option maxHeartbeats 0
/- The operations of both sides: what their loops compute. -/
noncomputable section
namespace Go.Proofs.YtljlfiomikifjaaGreatDoor
open Go Go.Ab
theorem zbgQ {τ:Type} (l:List τ) (p:τ->Bool):(l.takeWhile p).length<=l.length:=(List.takeWhile_prefix p).length_le
theorem zyM {τ:Type} [Inhabited τ] {R:τ->τ->Prop} (ht:∀ x y z,R x y->R y z->R x z):∀ l:List τ,(∀ k,0<k->k<l.length->R (l.getD (k - 1) default) (l.getD k default))->l.Pairwise R
 | [],_=>.nil
 | [x],_=>by simp
 | x::y::r,h=>by
  have h1:R x y:=h 1 (by omega) (by simp)
  have h2:=zyM ht (y::r) λk hk hl=>by
   have:=h (k+1) (by omega) (by simpa using hl)
   obtain ⟨j,rfl⟩:∃ j,k=j+1:=⟨k - 1,by omega⟩
   exact this
  refine qi.2 ⟨λz hz=> ?_,h2⟩
  rcases qd.1 hz with rfl | hz
  ·exact h1
  ·exact ht x y z h1 ((qi.1 h2).1 z hz)
def GF (f:Fc):Prop:=(zij (zde 9) f.At=true/\zjX f.At/\f.At.Items.length<=1024)/\1<=f.Exp/\f.Exp<=1000000
def GT (t:Term):Prop:=cOK t/\t.Fs.length<=1000/\∀ f∈t.Fs,GF f
def VT (t:Term):Prop:=GT t/\Srf t.Fs/\t.Fs.length<=64/\∀ f∈t.Fs,eOK f/\f.Exp<=64
theorem zRV {a:yC} (h:zdM a=true) (hw:zis a):Srs a/\a.length<=512/\∀ t∈a,VT t:=by
 have h9:=z8T h (Nat.le_refl 9);rw [z5j] at h;obtain ⟨w1,w2,w3,w4⟩:=zJY (zX3 h);have hall:=h;simp only [zAF,qc] at hall;refine ⟨zyM (R:=λx y=>cT x y<0) (λx y z h1 h2=>zS9 h1 h2) a λk hk hl=> ?_,w1,λt ht=> ?_⟩
 ·have:=zl7.1 hall.2 k (by omega) (by omega)
  simp only [zC3,qc,Bool.or_eq_true,qe] at this;rcases this.1.2 with e | e
  ·omega
  ·exact e
 ·obtain ⟨hc,hok⟩:=zHr h ht;obtain ⟨l1,l2⟩:=w4 t ht;have hwt:=zwV (zDs (zzw hw t ht)).2.1;refine ⟨⟨hc,by omega,λf hf=> ?_⟩,zyM (R:=λx y=>cF x y<0) (λx y z h1 h2=>zRE h1 h2) _ λk hk hl=> ?_,l1,λf hf=> ?_⟩
  ·obtain ⟨⟨e1,_⟩,hv⟩:=zDf hok hf;exact ⟨⟨by rw [zbdO (Nat.le_refl 9)]; exact hv,(zyY (hwt f hf)).1,(l2 f hf).2⟩,e1,by have:=(l2 f hf).1; omega⟩
  ·have:=zl7.1 hok k (by omega) (by omega)
   simp only [zPb,qc,Bool.or_eq_true,qe] at this;rcases this.1.2 with e | e
   ·omega
   ·exact e
  ·obtain ⟨⟨_,e2⟩,hv⟩:=zDf hok hf;exact ⟨⟨zDB hv,e2⟩,(l2 f hf).1⟩
theorem zbb7 {m:Nat} {x:At} (h:zij (zde m) x=true) (hi:x.Items.length<=1024):zex (zF 9) x:=by
 cases zjO.1 h with
 | var r h=>exact ⟨⟨by simp,by simp,by show (ByteArray.mk #[]).size<=_; decide⟩,λa ha=>(by cases ha),λw hw=>(by cases hw)⟩
 | mon b c hb hc _ _ _=>
  refine ⟨⟨by simp,by simp,by show (ByteArray.mk #[]).size<=_; decide⟩,λy hy=> ?_,λw hw=>(by cases hw)⟩
  simp only [qd,List.not_mem_nil,or_false] at hy;rcases hy with rfl | rfl
  ·exact (zhN hb).1
  ·exact (zhN hc).1
 | del b hb _ _ _=>
  refine ⟨⟨by simp,by simp,by show (ByteArray.mk #[]).size<=_; decide⟩,λy hy=> ?_,λw hw=>(by cases hw)⟩
  rw [qh] at hy; subst hy; exact (zhN hb).1
 | abs b hb _ _=>
  refine ⟨⟨by simp,by simp,by show (ByteArray.mk #[]).size<=_; decide⟩,λy hy=> ?_,λw hw=>(by cases hw)⟩
  rw [qh] at hy; subst hy; exact (zhN hb).1
 | tst f l o b hl hv hs hf=>
  obtain ⟨_,hb,hit⟩:=zC2 hf;simp only at hi;exact ⟨⟨by simp,by simp only; omega,by have:=zCD hb; simp only; omega⟩,λa ha=>(by cases ha),λw hw=>⟨by have:=zCD (hit w hw).1; omega,(zhN (hv w hw).1).1⟩⟩
theorem GT.fine {t:Term} (h:GT t):zgv (zF 9) t.Fs:=⟨by have:=h.2.1; omega,λf hf=>zbb7 (h.2.2 f hf).1.1 (h.2.2 f hf).1.2.2⟩
theorem GF.gF {f:Fc} (h:GF f):gF (zde 9) f:=⟨h.1.1,h.1.2.1,by constructor <;>(have:=h.2; omega)⟩
theorem GT.inj {s t:Term} (hs:GT s) (ht:GT t) (h:bs (txL s.Fs)=bs (txL t.Fs)):s.Fs=t.Fs:=
 zbfx (λf hf=>(hs.2.2 f hf).gF) (λf hf=>(ht.2.2 f hf).gF) (zbhz h)
mutual
theorem zbaM:∀ x:At,zj3 x<=zfC x
 | ⟨_,_,a,_,i,_,_⟩=>by
  rw [zj3,zfC];have h1:=z0U a;have h2:=zVF i;omega
theorem zQC:∀ l:yD,zb2 l<=zW l
 | []=>by rw [zb2,zW]; exact Nat.le_refl _
 | ⟨x,_⟩::r=>by
  rw [zb2,zW];have h1:=zbaM x;have h2:=zQC r;omega
theorem zJU:∀ l:yC,zX l<=zb4 l
 | []=>by rw [zX,zb4]; exact Nat.le_refl _
 | ⟨_,fs⟩::r=>by
  rw [zX,zb4];have h1:=zQC fs;have h2:=zJU r;omega
theorem z0U:∀ l:yA,zfb l<=zr9 l
 | []=>by rw [zfb,zr9]; exact Nat.le_refl _
 | a::r=>by
  rw [zfb,zr9];have h1:=zJU a;have h2:=z0U r;omega
theorem zVF:∀ l:yE,zdI l<=l.length+zl4 l
 | []=>by rw [zdI,zl4]; exact Nat.zero_le _
 | ⟨_,a⟩::r=>by
  rw [zdI,zl4];have h1:=zJU a;have h2:=zVF r;simp only [qf];omega
end
theorem zbev (d:Nat):zF (d+1) []:=⟨by simp,λt ht=>by cases ht⟩
theorem zQq {B:Nat}:∀ l:yD,(∀ f∈l,zj3 f.At<=B)->zb2 l<=l.length*B
 | [],_=>by rw [zvd]; simp
 | f::r,h=>by
  have h1:=h f (by simp)
  have h2:=zQq r λg hg=>h g (by simp [hg])
  rw [zeL,qf,Nat.add_mul]; omega
theorem z3v {B:Nat}:∀ l:yC,(∀ t∈l,1+t.Fs.length+zb2 t.Fs<=B)->zX l<=l.length*B
 | [],_=>by rw [zJX]; simp
 | f::r,h=>by
  have h1:=h f (by simp)
  have h2:=z3v r λg hg=>h g (by simp [hg])
  rw [zmu,qf,Nat.add_mul]; omega
theorem zbhx {l:yC} (hl:l.length<=1000000) (h:∀ t∈l,GT t):zF 10 l/\zX l<=4611686018427387904:=by
 refine ⟨⟨hl,λt ht=>(h t ht).fine⟩, ?_⟩
 refine Nat.le_trans (z3v (B:=4195330000) l λt ht=> ?_) (by have:=Nat.mul_le_mul hl (Nat.le_refl 4195330000); omega)
 have hg:=h t ht;have h1:=zQq (B:=4195328) t.Fs λf hf=>zbaT (hg.2.2 f hf).1.1 (hg.2.2 f hf).1.2.2
 have:=Nat.mul_le_mul hg.2.1 (Nat.le_refl 4195328);have:=hg.2.1;omega
theorem zbgO {t:Term} (ht:GT t) {l:yC} (hs:Srs l) (h:∀ x∈l,GT x):∀ x∈zuv t l,GT x:=λx hx=>by
 have hc:=zbcb ht.1 (λy hy=>(h y hy).1) x hx
 rcases (zYV hs).1 hx with ⟨h1,_⟩ | ⟨h1,_⟩
 ·exact h x h1
 ·exact ⟨hc,by rw [h1]; exact ht.2⟩
theorem z9c:∀ (b a:yC),Srs a->(∀ x∈a,GT x)->(∀ x∈b,GT x)->∀ x∈zFc a b,GT x
 | [],_,_,ha,_=>ha
 | t::r,a,hs,ha,hb=>z9c r (zuv t a) (zYZ hs) (zbgO (hb t (by simp)) hs ha) λx hx=>hb x (by simp [hx])
theorem zbex {x y:Term} (hx:VT x) (hy:VT y):GT (zbch x y):=by
 obtain ⟨gx,sx,lx,ex⟩:=hx;obtain ⟨gy,sy,ly,ey⟩:=hy;refine ⟨(z3A gx.1 gy.1).1,by have:=zTp x.Fs y.Fs; show (zfp x.Fs y.Fs).length<=1000; omega,λf hf=> ?_⟩
 obtain ⟨g,hg,e⟩:=ztr hf;have hb:=zRN (B:=64) (λz hz=>⟨(gx.2.2 z hz).2.1,(ex z hz).2⟩) (λz hz=>⟨(gy.2.2 z hz).2.1,(ey z hz).2⟩) hf
 have hv:(zij (zde 9) g.At=true/\zjX g.At/\g.At.Items.length<=1024):=by
  rcases hg with hg | hg
  ·exact (gx.2.2 g hg).1
  ·exact (gy.2.2 g hg).1
 exact ⟨by rw [e]; exact hv,hb.1,by omega⟩
theorem zbeI {a b:yC} (ha:∀ t∈a,VT t) (hb:∀ t∈b,VT t):∀ t∈zw1 a b,GT t:=λt ht=>by
 obtain ⟨x,hx,y,hy,rfl⟩:=zHx ht;exact zbex (ha x hx) (hb y hy)
def okA (a:yC):Prop:=(zF 12 a/\zX a<=4611686018427387904)/\zis a/\a.length<=zbo
def opR (ok:Bool) (r:yC×Int):yC×Int:=bif ok then r else ([],1)
def zbel (a b:yC):yC×Int:=opR (zdM a&&zdM b) (zOQ (zFc a b))
def zbe0 (a b:yC):yC×Int:=opR (zdM a&&zdM b) (zOQ (zJW a b))
def zbhp (a b:yC):At:=⟨1,⟨0,0⟩,[a,b],0,[],0,⟨0,0,ByteArray.mk #[]⟩⟩
def zbgz (a:yC):At:=⟨2,⟨0,0⟩,[a],0,[],0,⟨0,0,ByteArray.mk #[]⟩⟩
def zbg6 (a:yC):At:=⟨3,⟨0,0⟩,[a],0,[],0,⟨0,0,ByteArray.mk #[]⟩⟩
def zbez (a b:yC):yC×Int:=opR (zdM a&&zdM b) (if b=[] then (a,0) else if a=[]\/a=b then ([],0) else zOQ (zlo (zbhp a b)))
def zbed (a:yC):yC×Int:=opR (zdM a) (if a=[]\/isU a=true then (a,0) else if isC a=true then ([⟨1,[]⟩],0) else zOQ (zlo (zbgz a)))
def zbeS (a:yC):yC×Int:=opR (zdM a) (if a=[] then ([⟨1,[]⟩],0) else if zB6 a=true then ([],0) else zOQ (zlo (zbg6 a)))
theorem okA.valid {a:yC} (h:okA a):zb7 a=(true,zdM a):=zbdi h.1.1 (by omega) h.1.2
theorem okA.rvalid {a:yC} (h:okA a):zBe a=(true,zdM a):=zbcT h.1.1 (by omega) h.1.2
theorem zbfc {l:yA} {k:Int} (hl:l.length<=2) (h:∀ a∈l,zdM a=true):zF 10 (zlo ⟨k,⟨0,0⟩,l,0,[],0,⟨0,0,ByteArray.mk #[]⟩⟩)/\zX (zlo ⟨k,⟨0,0⟩,l,0,[],0,⟨0,0,ByteArray.mk #[]⟩⟩)<=4611686018427387904:=by
 constructor
 ·exact zVR ⟨⟨by simp only; omega,by simp,by show (ByteArray.mk #[]).size<=_; decide⟩,λa ha=>(zhN (h a ha)).1,λw hw=>(by cases hw)⟩
 ·rw [z92,zjy]
  have hb:∀ l:yA,(∀ a∈l,zdM a=true)->zfb l<=l.length*4096:=λl=>by
   induction l with
   | nil=>intro _; rw [zpb]; simp
   | cons a r ih=>
    intro h;have h1:=(zhN (h a (by simp))).2.1
    have h2:=ih λb hb=>h b (by simp [hb])
    rw [zhD,qf,Nat.add_mul]; omega
  have:=hb l h;show 2+(zfb l+zdI [])<=_;rw [zmS];have:=Nat.mul_le_mul hl (Nat.le_refl 4096);omega
theorem zWh {n:Int} (h:rng n):wf3 n:=by
 show (Lit.int .i64 n).wf=true;have:IntKind.i64.min<=n/\n<=IntKind.i64.max:=⟨h.1,h.2⟩
 simpa [Lit.wf] using this
theorem zYs {t:Term} (hc:rng t.Cf) (hf:∀ f∈t.Fs,zjX f.At/\rng f.Exp) (hl:t.Fs.length<=1000000):zBs t:=by
 obtain ⟨c,fs⟩:=t;unfold zBs;refine ⟨zWh hc,zKV fs λf h=> ?_,by have:zbo=140737488351232:=rfl; simp only at hl; omega⟩
 obtain ⟨x,e⟩:=f;unfold zwE;exact ⟨(hf _ h).1,zWh (hf _ h).2⟩
def okR (r:yC×Int):Prop:=okA r.1/\(r.2=0\/r.1=[])
theorem zu1:okA []:=⟨⟨zbev 11,by rw [zJX]; omega⟩,by unfold zis; trivial,by simp⟩
theorem zKt {a:yC} (h:okA a):okR (zOQ a):=by
 unfold zOQ;cases zmq a with
 | true=>exact ⟨h,.inl rfl⟩
 | false=>exact ⟨zu1,.inr rfl⟩
theorem zWE {ok:Bool} {r:yC×Int} (h:ok=true->okR r):okR (opR ok r):=by
 unfold opR;cases ok with
 | true=>exact h rfl
 | false=>exact ⟨zu1,.inr rfl⟩
theorem z6S {l:yC} (hl:l.length<=1000000) (h:∀ t∈l,GT t):okA l:=by
 obtain ⟨h1,h2⟩:=zbhx hl h;refine ⟨⟨h1.mono (by omega),h2⟩,zE8 l λt ht=> ?_,by have:zbo=140737488351232:=rfl; omega⟩
 have hg:=h t ht;exact zYs ⟨by have:=hg.1.1; omega,by have:=hg.1.2; omega⟩ (λf hf=>⟨(hg.2.2 f hf).1.2.1,(hg.2.2 f hf).gF.2.2⟩) (by have:=hg.2.1; omega)
theorem zbfH {a b:yC} (ha:okA a) (hb:okA b):okR (zbel a b):=zWE λhv=>by
 rw [qc] at hv;obtain ⟨sa,la,ta⟩:=zRV hv.1 ha.2.1;obtain ⟨sb,lb,tb⟩:=zRV hv.2 hb.2.1;exact zKt (z6S (by have:=z6Q b a; omega) (z9c b a sa (λt ht=>(ta t ht).1) λt ht=>(tb t ht).1))
theorem zbfF {a b:yC} (ha:okA a) (hb:okA b):okR (zbe0 a b):=zWE λhv=>by
 rw [qc] at hv;obtain ⟨sa,la,ta⟩:=zRV hv.1 ha.2.1;obtain ⟨sb,lb,tb⟩:=zRV hv.2 hb.2.1;have hpl:(zw1 a b).length<=1000000:=by rw [zbc4]; have:=Nat.mul_le_mul la lb; omega
 exact zKt (z6S (by have:=z6Q (zw1 a b) []; simp at this; exact Nat.le_trans this hpl) (z9c (zw1 a b) [] .nil (λt ht=>by cases ht) (zbeI ta tb)))
theorem zbeK {x:At} (hf:zex (zF 9) x) (hs:zX (zlo x)<=4611686018427387904) (hw:zjX x):okA (zlo x):=by
 refine ⟨⟨(zVR hf).mono (by omega),hs⟩,zE8 _ λt ht=> ?_,by simp [zlo,zbo]⟩
 simp only [zlo,qh] at ht;subst ht;refine zYs ⟨by simp,by simp⟩ (λf hf=> ?_) (by simp)
 simp only [qh] at hf;subst hf;exact ⟨hw,⟨by simp,by simp⟩⟩
theorem zXp {n:Int} (h: -1000<=n/\n<=1000):rng n:=⟨by omega,by omega⟩
theorem zCf:wf3 0:=zWh (zXp (by omega))
theorem zWZ {l:yA} {k:Int} (hk:0<=k/\k<=4) (hl:l.length<=2) (h:∀ a∈l,zdM a=true) (hw:∀ a∈l,okA a):okA (zlo ⟨k,⟨0,0⟩,l,0,[],0,⟨0,0,ByteArray.mk #[]⟩⟩):=by
 refine zbeK ⟨⟨by simp only; omega,by simp,by show (ByteArray.mk #[]).size<=_; decide⟩,λa ha=>(zhN (h a ha)).1,λw hw=>(by cases hw)⟩ (zbfc hl h).2 ?_
 unfold zjX;have hr:zbo=140737488351232:=rfl;refine ⟨zWh (zXp (by omega)),⟨zCf,zCf⟩,⟨zW2 l λa ha=>⟨(hw a ha).2.1,(hw a ha).2.2⟩,by omega⟩,zCf,⟨by unfold zuo; trivial,by simp⟩,zCf,⟨zCf,zCf, ?_⟩⟩
 show (ByteArray.mk #[]).size<=zbo;rw [hr]; decide
theorem zbf7 {a b:yC} (ha:okA a) (hb:okA b):okR (zbez a b):=zWE λhv=>by
 rw [qc] at hv;split
 ·exact ⟨ha,.inl rfl⟩
 ·split
  ·exact ⟨zu1,.inl rfl⟩
  ·refine zKt (zWZ (by omega) (by simp) (λx hx=> ?_) λx hx=> ?_)
   ·simp only [qd,List.not_mem_nil,or_false] at hx;rcases hx with rfl | rfl
    ·exact hv.1
    ·exact hv.2
   ·simp only [qd,List.not_mem_nil,or_false] at hx;rcases hx with rfl | rfl
    ·exact ha
    ·exact hb
theorem zY3 (c:Int) (hc:1<=c/\c<=1152921504606846976):okA [⟨c,[]⟩]:=z6S (by simp) λt ht=>by
 rw [qh] at ht; subst ht;exact ⟨hc,by simp,λf hf=>by cases hf⟩
theorem zbfW {a:yC} (ha:okA a):okR (zbed a):=zWE λhv=>by
 split
 ·exact ⟨ha,.inl rfl⟩
 ·split
  ·exact ⟨zY3 1 (by omega),.inl rfl⟩
  ·exact zKt (zWZ (by omega) (by simp) (λx hx=>by rw [qh] at hx; subst hx; exact hv) λx hx=>by rw [qh] at hx; subst hx; exact ha)
theorem zbfQ {a:yC} (ha:okA a):okR (zbeS a):=zWE λhv=>by
 split
 ·exact ⟨zY3 1 (by omega),.inl rfl⟩
 ·split
  ·exact ⟨zu1,.inl rfl⟩
  ·exact zKt (zWZ (by omega) (by simp) (λx hx=>by rw [qh] at hx; subst hx; exact hv) λx hx=>by rw [qh] at hx; subst hx; exact ha)
def z6x (n:Int):yC:=if n<1 then [] else [⟨if 1152921504606846976<n then 1152921504606846976 else n,[]⟩]
def zbia (id:RowID):yC:=bif zJw id then zlo ⟨0,id,[],0,[],0,⟨0,0,ByteArray.mk #[]⟩⟩ else []
theorem zbg1 (n:Int):okA (z6x n):=by
 unfold z6x;split
 ·exact zu1
 ·refine zY3 _ ?_;split <;>omega
theorem zbgk {a:yC} {n:Nat} (hn:n<=1000) (h:zF 12 a/\zb4 a<=n) (hw:z9S a):okA a:=⟨⟨h.1,by have:=zJU a; omega⟩,hw.1,hw.2⟩
def MF (l:yD):Prop:=Srf l/\∀ f∈l,eOK f/\1<=f.Exp
theorem MF.tail {f:Fc} {l:yD} (h:MF (f::l)):MF l:=⟨(qi.1 h.1).2,λg hg=>h.2 g (by simp [hg])⟩
theorem MF.nil:MF []:=⟨List.Pairwise.nil,λf hf=>by cases hf⟩
theorem cF_self' {x y:Fc} (h:x.At=y.At):cF x y=0:=by unfold cF; rw [h]; exact zX1 _
theorem MF.ne {f:Fc} {l:yD} (h:MF (f::l)):∀ g∈l,g.At≠f.At:=λg hg e=>by
 have:=(qi.1 h.1).1 g hg;rw [cF_self' e.symm] at this; omega
theorem zbeE {a b:yD}:Srf a->Srf b->Srf (zfp a b):=by
 induction a,b using zfp.induct with
 | case1 b=>intro _ hb; rw [zfp]; exact hb
 | case2 x a=>intro ha _; rw [zfp]; exact ha
 | case3 x a y b h ih=>
  intro ha hb;have ca:=qi.1 ha;rw [zfp,if_pos h];refine qi.2 ⟨λz hz=> ?_,ih ca.2 hb⟩
  obtain ⟨w,hw,e⟩:=ztr hz;have:cF x z=cF x w:=by unfold cF; rw [e]
  rw [this];rcases hw with hw | hw
  ·exact ca.1 w hw
  ·rcases qd.1 hw with rfl | hw
   ·exact h
   ·exact zRE h ((qi.1 hb).1 w hw)
 | case4 x a y b h h2 ih=>
  intro ha hb;have cb:=qi.1 hb;rw [zfp,if_neg h,if_pos h2];have h3:cF y x<0:=by rw [zbf0 x y]; omega
  refine qi.2 ⟨λz hz=> ?_,ih ha cb.2⟩
  obtain ⟨w,hw,e⟩:=ztr hz;have:cF y z=cF y w:=by unfold cF; rw [e]
  rw [this];rcases hw with hw | hw
  ·rcases qd.1 hw with rfl | hw
   ·exact h3
   ·exact zRE h3 ((qi.1 ha).1 w hw)
  ·exact cb.1 w hw
 | case5 x a y b h h2 ih=>
  intro ha hb;have ca:=qi.1 ha;have cb:=qi.1 hb;have h0:x.At=y.At:=zbga (by omega)
  rw [zfp,if_neg h,if_neg h2];have hA:(if x.At.Kind=3\/x.At.Kind=4 then x else ⟨x.At,x.Exp+y.Exp⟩:Fc).At=x.At:=by split <;>rfl
  refine qi.2 ⟨λz hz=> ?_,ih ca.2 cb.2⟩
  obtain ⟨w,hw,e⟩:=ztr hz;have:cF (if x.At.Kind=3\/x.At.Kind=4 then x else ⟨x.At,x.Exp+y.Exp⟩:Fc) z=cF x w:=by unfold cF; rw [e,hA]
  rw [this];rcases hw with hw | hw
  ·exact ca.1 w hw
  ·have:cF x w=cF y w:=by unfold cF; rw [h0]
   rw [this]; exact cb.1 w hw
theorem zbeL {a b:yD}:(∀ f∈a,eOK f/\1<=f.Exp)->(∀ f∈b,eOK f/\1<=f.Exp)->∀ f∈zfp a b,eOK f/\1<=f.Exp:=by
 induction a,b using zfp.induct with
 | case1 b=>intro _ hb; rw [zfp]; exact hb
 | case2 x a=>intro ha _; rw [zfp]; exact ha
 | case3 x a y b h ih=>
  intro ha hb f hf;rw [zfp,if_pos h] at hf;rcases qd.1 hf with rfl | hf
  ·exact ha _ (by simp)
  ·exact ih (λg hg=>ha g (by simp [hg])) hb f hf
 | case4 x a y b h h2 ih=>
  intro ha hb f hf;rw [zfp,if_neg h,if_pos h2] at hf;rcases qd.1 hf with rfl | hf
  ·exact hb _ (by simp)
  ·exact ih ha (λg hg=>hb g (by simp [hg])) f hf
 | case5 x a y b h h2 ih=>
  intro ha hb f hf;rw [zfp,if_neg h,if_neg h2] at hf;rcases qd.1 hf with rfl | hf
  ·have h1:=ha x (by simp)
   have h2:=hb y (by simp)
   split
   ·exact h1
   ·rename_i hk;exact ⟨⟨h1.1.1,λh=>absurd h hk⟩,by show 1<=x.Exp+y.Exp; omega⟩
  ·exact ih (λg hg=>ha g (by simp [hg])) (λg hg=>hb g (by simp [hg])) f hf
theorem zbbO {a b:yD} (ha:MF a) (hb:MF b):MF (zfp a b):=⟨zbeE ha.1 hb.1,zbeL ha.2 hb.2⟩
def EqS (n m:Nat):Prop:=n=m\/(1152921504606846976<=n/\1152921504606846976<=m)
theorem EqS.refl (n:Nat):EqS n n:=.inl rfl
theorem EqS.symm {n m:Nat} (h:EqS n m):EqS m n:=by unfold EqS at *; omega
theorem EqS.trans {n m k:Nat} (h:EqS n m) (h':EqS m k):EqS n k:=by unfold EqS at *; omega
theorem EqS.add {n m n' m':Nat} (h:EqS n n') (h':EqS m m'):EqS (n+m) (n'+m'):=by unfold EqS at *; omega
theorem EqS.mul1 {n n':Nat} (k:Nat) (h:EqS n n'):EqS (n*k) (n'*k):=by
 rcases h with rfl | ⟨h1,h2⟩
 ·exact .refl _
 ·rcases Nat.eq_zero_or_pos k with rfl | hk
  ·exact .inl (by simp)
  ·exact .inr ⟨Nat.le_trans h1 (Nat.le_mul_of_pos_right n hk),Nat.le_trans h2 (Nat.le_mul_of_pos_right n' hk)⟩
theorem EqS.mul {n m n' m':Nat} (h:EqS n n') (h':EqS m m'):EqS (n*m) (n'*m'):=by
 refine (h.mul1 m).trans ?_;rw [Nat.mul_comm n' m,Nat.mul_comm n' m'];exact h'.mul1 n'
theorem zbfL {a b:yC} (ha:∀ x∈a,cOK x) (hb:∀ x∈b,cOK x):∀ t∈zw1 a b,cOK t:=λt ht=>by
 obtain ⟨x,hx,y,hy,rfl⟩:=zHx ht;exact (z3A (ha x hx) (hb y hy)).1
theorem zbgL {a b:yC} (ha:∀ x∈a,cOK x) (hb:∀ x∈b,cOK x):∀ t∈zJW a b,cOK t:=zbcr _ (λ_ h=>by cases h) (zbfL ha hb)
theorem zbe2 (a b:yC):Srs (zJW a b):=z58 _ _ List.Pairwise.nil
def PA (a:yC):Prop:=Srs a/\∀ t∈a,cOK t/\MF t.Fs
theorem PA.c {a:yC} (h:PA a):∀ t∈a,cOK t:=λt ht=>(h.2 t ht).1
theorem zbgH {a b:yC} (ha:PA a) (hb:PA b):PA (zFc a b):=⟨z58 _ _ ha.1,λt ht=>⟨zbcr b ha.c hb.c t ht,by
 obtain ⟨x,hx,e⟩:=zFX b a ha.1 ht;rw [e];rcases hx with hx | hx
 ·exact (ha.2 x hx).2
 ·exact (hb.2 x hx).2⟩⟩
theorem zbfJ {a b:yC} (ha:PA a) (hb:PA b):PA (zJW a b):=⟨zbe2 _ _,λt ht=>⟨zbgL ha.c hb.c t ht,by
 obtain ⟨x,hx,e⟩:=zFX (zw1 a b) [] List.Pairwise.nil ht;rw [e];rcases hx with hx | hx
 ·cases hx
 ·obtain ⟨u,hu,v,hv,rfl⟩:=zHx hx;exact zbbO (ha.2 u hu).2 (hb.2 v hv).2⟩⟩
theorem PA.nil:PA []:=⟨List.Pairwise.nil,λt ht=>by cases ht⟩
theorem zLg {τ:Type} [Inhabited τ] {R:τ->τ->Prop}:∀ {l:List τ},l.Pairwise R->∀ k,0<k->k<l.length->R (l.getD (k - 1) default) (l.getD k default)
 | [],_,k,_,h=>by simp at h
 | x::r,h,0,h0,_=>by omega
 | x::r,h,1,_,h1=>(qi.1 h).1 _ (zR (by simpa using h1))
 | x::r,h,k+2,_,h1=>zLg (qi.1 h).2 (k+1) (by omega) (by simp only [qf] at h1; omega)
def OKF (vat:At->Bool) (fs:yD):Prop:=Srf fs/\∀ f∈fs,(1<=f.Exp/\(f.At.Kind=3\/f.At.Kind=4->f.Exp=1))/\vat f.At=true
theorem zbbr {vat:At->Bool} {fs:yD}:okF vat fs=true↔OKF vat fs:=by
 constructor
 ·intro h;refine ⟨zyM (R:=λx y=>cF x y<0) (λx y z h1 h2=>zRE h1 h2) _ λk hk hl=> ?_,λf hf=>zDf h hf⟩
  have:=zl7.1 h k (by omega) (by omega)
  simp only [zPb,qc,Bool.or_eq_true,qe] at this;rcases this.1.2 with e | e
  ·omega
  ·exact e
 ·intro h;refine zl7.2 λk _ hk=> ?_
  have hm:=h.2 _ (zR (l:=fs) (i:=k) (by omega))
  simp only [zPb,qc,Bool.or_eq_true,qe,Bool.not_eq_true',Bool.and_eq_false_iff];refine ⟨⟨⟨hm.1.1, ?_⟩, ?_⟩,hm.2⟩
  ·by_cases hk:(fs.getD k default).At.Kind=3\/(fs.getD k default).At.Kind=4
   ·right; rw [hm.1.2 hk]; rfl
   ·left
    rw [Bool.or_eq_false_iff];constructor
    ·simpa using λe=>hk (.inl e)
    ·simpa using λe=>hk (.inr e)
  ·by_cases h0:k=0
   ·exact .inl h0
   ·exact .inr (zLg h.1 k (by omega) (by omega))
theorem zbef {vat:At->Bool} {a:yC}:zAF vat a=true↔zmq a=true/\Srs a/\∀ t∈a,cOK t/\OKF vat t.Fs:=by
 constructor
 ·intro h;have hall:=h;simp only [zAF,qc] at hall;refine ⟨hall.1,zyM (R:=λx y=>cT x y<0) (λx y z h1 h2=>zS9 h1 h2) a λk hk hl=> ?_,λt ht=>⟨(zHr h ht).1,zbbr.1 (zHr h ht).2⟩⟩
  have:=zl7.1 hall.2 k (by omega) (by omega)
  simp only [zC3,qc,Bool.or_eq_true,qe] at this;rcases this.1.2 with e | e
  ·omega
  ·exact e
 ·rintro ⟨h1,h2,h3⟩
  simp only [zAF,qc];refine ⟨h1,zl7.2 λk _ hk=> ?_⟩
  have hm:=h3 _ (zR (l:=a) (i:=k) (by omega))
  simp only [zC3,qc,Bool.or_eq_true,qe];refine ⟨⟨⟨hm.1.1,hm.1.2⟩, ?_⟩,zbbr.2 hm.2⟩;by_cases h0:k=0
  ·exact .inl h0
  ·exact .inr (zLg h2 k (by omega) (by omega))
def QA (a:yC):Prop:=Srs a/\∀ t∈a,cOK t/\OKF zxK t.Fs
theorem zbc7 {a:yC}:zdM a=true↔zmq a=true/\QA a:=by rw [z5j]; exact zbef
theorem OKF.mf {fs:yD} (h:OKF zxK fs):MF fs:=⟨h.1,λf hf=>⟨⟨zDB (h.2 f hf).2,(h.2 f hf).1.2⟩,(h.2 f hf).1.1⟩⟩
theorem QA.pa {a:yC} (h:QA a):PA a:=⟨h.1,λt ht=>⟨(h.2 t ht).1,(h.2 t ht).2.mf⟩⟩
theorem zvX {a:yC} (h:zdM a=true):QA a:=(zbc7.1 h).2
theorem zbd9 {a:yC} (h:zdM a=true):PA a:=(zvX h).pa
theorem MF.okf {fs:yD} (h:MF fs) (hv:∀ f∈fs,zxK f.At=true):OKF zxK fs:=⟨h.1,λf hf=>⟨⟨(h.2 f hf).2,(h.2 f hf).1.2⟩,hv f hf⟩⟩
theorem OKF.join {a b:yD} (ha:OKF zxK a) (hb:OKF zxK b):OKF zxK (zfp a b):=(zbbO ha.mf hb.mf).okf λf hf=>by
 obtain ⟨y,hy,e⟩:=ztr hf;rw [e];rcases hy with hy | hy
 ·exact (ha.2 y hy).2
 ·exact (hb.2 y hy).2
theorem QA.nil:QA []:=⟨List.Pairwise.nil,λt ht=>by cases ht⟩
theorem zbe4 {x:At}:zxK x=true↔VA zdM x:=zjO
def sbd {α β:Type} (x:Int⊕α) (k:α->Int⊕β):Int⊕β:=match x with
 | .inl e=>.inl e
 | .inr a=>k a
def opS (r:yC×Int):Int⊕yC:=if r.2=0 then .inr r.1 else .inl r.2
def ofS:Int⊕yC->yC×Int
 | .inl e=>([],e)
 | .inr a=>(a,0)
def zbcf (b:yC):Nat->yC->Int⊕yC
 | 0,p=>.inr p
 | n+1,p=>sbd (opS (zbe0 p b)) (zbcf b n)
mutual
def zVJ (to:RowID->yC):At->Int⊕yC
 | ⟨k,r,a,f,i,o,b⟩=>if k=0 then .inr (to r) else
  sbd (zA6 to a) λxs=>if k=1 then opS (zbez (xs.getD 0 default) (xs.getD 1 default)) else if k=2 then opS (zbed (xs.getD 0 default)) else if k=3 then opS (zbeS (xs.getD 0 default)) else
   sbd (zxA to i) λis=>opS (z3R f is o b)
def zvP (to:RowID->yC):yD->yC->Int⊕yC
 | [],p=>.inr p
 | ⟨x,e⟩::r,p=>sbd (zVJ to x) λb=>sbd (zbcf b e.toNat p) λq=>zvP to r q
def zsn (to:RowID->yC):yC->yC->Int⊕yC
 | [],s=>.inr s
 | ⟨c,fs⟩::r,s=>sbd (zvP to fs (z6x c)) λp=>sbd (opS (zbel s p)) λq=>zsn to r q
def zA6 (to:RowID->yC):yA->Int⊕yA
 | []=>.inr []
 | a::r=>sbd (zsn to a []) λb=>sbd (zA6 to r) λl=>.inr (b::l)
def zxA (to:RowID->yC):yE->Int⊕yE
 | []=>.inr []
 | ⟨v,a⟩::r=>sbd (zsn to a []) λb=>sbd (zxA to r) λl=>.inr (⟨v,b⟩::l)
end
variable (to:RowID->yC)
def GE {α:Type} (P:α->Prop):Int⊕α->Prop
 | .inl e=>e≠0
 | .inr a=>P a
abbrev GS:Int⊕yC->Prop:=GE okA
theorem zYO {r:yC×Int} (h:okR r):GS (opS r):=by
 unfold opS;by_cases he:r.2=0
 ·rw [if_pos he]; exact h.1
 ·rw [if_neg he]; exact he
theorem zSl {α β:Type} {P:α->Prop} {Q:β->Prop} {x:Int⊕α} {k:α->Int⊕β} (hx:GE P x) (hk:∀ a,P a->GE Q (k a)):GE Q (sbd x k):=by
 cases x with
 | inl e=>exact hx
 | inr a=>exact hk a hx
theorem zbc5 {b:yC} (hb:okA b):∀ (n:Nat) (p:yC),okA p->GS (zbcf b n p)
 | 0,p,hp=>hp
 | n+1,p,hp=>zSl (zYO (zbfF hp hb)) λq hq=>zbc5 hb n q hq
abbrev GL (n:Nat):Int⊕yA->Prop:=GE λl=>l.length=n/\∀ a∈l,okA a
abbrev GI (i:yE):Int⊕yE->Prop:=GE λl=>l.length=i.length/\∀ w∈l,okA w.Ann/\∃ v∈i,v.Value=w.Value
theorem zbb2 (w:Wd):zG9 w↔zTq w.Value/\zis w.Ann/\w.Ann.length<=zbo:=by cases w; unfold zG9; exact Iff.rfl
theorem zbd5 {k f o:Int} {r:RowID} {a:yA} {i:yE} {b:Value} (h1:wf3 k) (h2:z2Y r) (h3:zzi a/\a.length<=zbo) (h4:wf3 f) (h5:zuo i/\i.length<=zbo) (h6:wf3 o) (h7:zTq b):zjX ⟨k,r,a,f,i,o,b⟩:=by
 unfold zjX; exact ⟨h1,h2,h3,h4,h5,h6,h7⟩
theorem zbdP {f o:Int} {l:yE} {b:Value} (hl:l.length<=1000000) (h:∀ w∈l,okA w.Ann/\zTq w.Value) (hf:wf3 f) (ho:wf3 o) (hb:zTq b):okR (z3R f l o b):=by
 unfold z3R;cases hk:zEd f l o b with
 | false=>exact ⟨zu1,.inr rfl⟩
 | true=>
  cases hv:l.all λw=>zdM w.Ann with
  | false=>exact ⟨zu1,.inr rfl⟩
  | true=>
   simp only [Bool.and_self,Bool.not_true,cond_false];cases decide (0<(zmz l).length) with
   | true=>
    obtain ⟨tf,ts⟩:=zbeX hl hk hv;have hr:zbo=140737488351232:=rfl;have hlen:(zmz l).length<=1000000:=by rw [z3g]; exact Nat.le_trans (List.length_filter_le _ _) hl
    refine zKt ⟨⟨tf.mono (by omega),ts⟩,zE8 _ λt ht=> ?_,by simp [zlo,zbo]⟩
    simp only [zlo,qh] at ht;subst ht;refine zYs ⟨by simp,by simp⟩ (λg hg=> ?_) (by simp)
    simp only [qh] at hg;subst hg;refine ⟨zbd5 (zWh (zXp (by omega))) ⟨zCf,zCf⟩ ⟨by unfold zzi; trivial,by simp⟩ hf ⟨zTF _ λw hw=> ?_,by omega⟩ ho hb,⟨by simp,by simp⟩⟩
    have hm:=h w (zJR hw).1;exact (zbb2 w).2 ⟨hm.2,hm.1.2⟩
   | false=>
    cases f==0&&zbcS o (zdJ 0 b.Int) with
    | true=>exact ⟨zY3 1 (by omega),.inl rfl⟩
    | false=>exact ⟨zu1,.inl rfl⟩
theorem z9p {l:yA} (h:∀ a∈l,okA a) (i:Nat):okA (l.getD i default):=by
 by_cases hi:i<l.length
 ·exact h _ (zR hi)
 ·rw [List.getD_eq_getElem?_getD,List.getElem?_eq_none (by omega)]; exact zu1
def okT (to:RowID->yC):Prop:=∀ r,z2Y r->okA (to r)
variable {to}
mutual
theorem zbd0 (ht:okT to):∀ (x:At) (d:Nat),zjX x->zex (zF d) x->GS (zVJ to x)
 | ⟨k,r,a,f,i,o,b⟩=>λd hw hi=>by
  have hw':=zKe hw;simp only at hw';obtain ⟨⟨ha,hal⟩,⟨hit,hil⟩,hb,hk,hr,hf,ho⟩:=hw';obtain ⟨⟨l1,l2,_⟩,f1,f2⟩:=hi;simp only at l1 l2 f1 f2;rw [zVJ];by_cases hk0:k=0
  ·rw [if_pos hk0]; exact ht r hr
  ·rw [if_neg hk0];have hA:=z7s ht a d (λx hx=>(zo7 ha x hx).1) f1
   refine zSl hA λxs has=> ?_
   have h0:=z9p has.2 0;have h1:=z9p has.2 1;split
   ·exact zYO (zbf7 h0 h1)
   ·split
    ·exact zYO (zbfW h0)
    ·split
     ·exact zYO (zbfQ h0)
     ·have hI:=z3L ht i d (λx hx=>(zxD hit x hx).2.1) λw hw=>(f2 w hw).2
      refine zSl hI λis his=> ?_
      refine zYO (zbdP (by omega) (λw hw=>⟨(his.2 w hw).1, ?_⟩) hf ho hb)
      obtain ⟨v,hv,e⟩:=(his.2 w hw).2;rw [<- e]; exact (zxD hit v hv).1
theorem zYf (ht:okT to):∀ (l:yD) (d:Nat),(∀ f∈l,zjX f.At/\zex (zF d) f.At)->∀ p,okA p->GS (zvP to l p)
 | [],_,_,p,hp=>by rw [zvP]; exact hp
 | ⟨x,e⟩::r,d,h,p,hp=>by
  rw [zvP];have hx:=zbd0 ht x d (h ⟨x,e⟩ (by simp)).1 (h ⟨x,e⟩ (by simp)).2
  refine zSl hx λb hb=>zSl (zbc5 hb _ p hp) λq hq=> ?_
  exact zYf ht r d (λf hf=>h f (by simp [hf])) q hq
theorem z2Q (ht:okT to):∀ (a:yC) (d:Nat),zis a->(∀ t∈a,∀ f∈t.Fs,zex (zF d) f.At)->∀ s,okA s->GS (zsn to a s)
 | [],_,_,_,s,hs=>by rw [zsn]; exact hs
 | ⟨c,fs⟩::r,d,hw,hi,s,hs=>by
  rw [zsn];have hwt:=zzw hw ⟨c,fs⟩ (by simp)
  have hp:=zYf ht fs d (λf hf=>⟨(zyY (zwV (zDs hwt).2.1 f hf)).1,hi ⟨c,fs⟩ (by simp) f hf⟩) (z6x c) (zbg1 c)
  refine zSl hp λp hp=>zSl (zYO (zbfH hs hp)) λq hq=> ?_
  exact z2Q ht r d (zE8 _ λt ht=>zzw hw t (by simp [ht])) (λt ht=>hi t (by simp [ht])) q hq
theorem z7s (ht:okT to):∀ (l:yA) (d:Nat),(∀ a∈l,zis a)->(∀ a∈l,zF d a)->GL l.length (zA6 to l)
 | [],_,_,_=>by rw [zA6]; exact ⟨rfl,λa ha=>by cases ha⟩
 | a::r,d,h,hi=>by
  rw [zA6];have hf:=hi a (by simp)
  have h1:GS (zsn to a []):=by
   cases d with
   | zero=>exact hf.elim
   | succ d=>exact z2Q ht a d (h a (by simp)) (λt ht f hf'=>(hf.2 t ht).2 f hf') [] zu1
  have h2:=z7s ht r d (λb hb=>h b (by simp [hb])) (λb hb=>hi b (by simp [hb]))
  revert h1 h2;cases zsn to a [] with
  | inl e=>exact λh _=>h
  | inr b=>
   cases zA6 to r with
   | inl e=>exact λ_ h=>h
   | inr l=>
    intro h1 h2;refine ⟨by simp [h2.1],λx hx=> ?_⟩
    rcases qd.1 hx with rfl | hx
    ·exact h1
    ·exact h2.2 x hx
theorem z3L (ht:okT to):∀ (l:yE) (d:Nat),(∀ w∈l,zis w.Ann)->(∀ w∈l,zF d w.Ann)->GI l (zxA to l)
 | [],_,_,_=>by rw [zxA]; exact ⟨rfl,λa ha=>by cases ha⟩
 | ⟨v,a⟩::r,d,h,hi=>by
  rw [zxA];have hf:zF d a:=hi ⟨v,a⟩ (by simp)
  have h1:GS (zsn to a []):=by
   cases d with
   | zero=>exact hf.elim
   | succ d=>exact z2Q ht a d (h ⟨v,a⟩ (by simp)) (λt ht f hf'=>(hf.2 t ht).2 f hf') [] zu1
  have h2:=z3L ht r d (λb hb=>h b (by simp [hb])) (λb hb=>hi b (by simp [hb]))
  revert h1 h2;cases zsn to a [] with
  | inl e=>exact λh _=>h
  | inr b=>
   cases zxA to r with
   | inl e=>exact λ_ h=>h
   | inr l=>
    intro h1 h2;refine ⟨by simp [h2.1],λx hx=> ?_⟩
    rcases qd.1 hx with rfl | hx
    ·exact ⟨h1,⟨v,a⟩,by simp,rfl⟩
    ·obtain ⟨h3,w,hw,e⟩:=h2.2 x hx;exact ⟨h3,w,by simp [hw],e⟩
end
end Go.Proofs.YtljlfiomikifjaaGreatDoor
end
