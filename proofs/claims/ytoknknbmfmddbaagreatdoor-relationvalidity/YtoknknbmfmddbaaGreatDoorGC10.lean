/- Texts of this claim, joined (the program, its functions in plain words, and what they compute). -/
import Derived.Test.YtoknknbmfmddbaaGreatDoorGC9
set_option autoImplicit false
set_option linter.unusedVariables false
set_option linter.unusedSectionVars false
set_option linter.unusedSimpArgs false
set_option maxRecDepth 1000000
set_option maxHeartbeats 0
/- The operations of both sides: what their loops compute. -/
noncomputable section
namespace Go.Proofs.YtoknknbmfmddbaaGreatDoor
open Go Go.Ab
theorem zwq {τ:Type} [Inhabited τ] {R:τ->τ->Prop} (ht:∀ x y z,R x y->R y z->R x z):∀ l:List τ,(∀ k,0<k->k<l.length->R (l.getD (k - 1) default) (l.getD k default))->l.Pairwise R
 | [],_=>.nil
 | [x],_=>by simp
 | x::y::r,h=>by
  have h1:R x y:=h 1 (by omega) (by simp)
  have h2:=zwq ht (y::r) λk hk hl=>by
   have:=h (k+1) (by omega) (by simpa using hl)
   obtain ⟨j,rfl⟩:∃ j,k=j+1:=⟨k - 1,by omega⟩
   exact this
  refine qi.2 ⟨λz hz=> ?_,h2⟩
  rcases qd.1 hz with rfl | hz
  ·exact h1
  ·exact ht x y z h1 ((qi.1 h2).1 z hz)
def GF (f:Fc):Prop:=(zd0 (zbU 9) f.At=true/\zfP f.At/\f.At.Items.length<=1024)/\1<=f.Exp/\f.Exp<=1000000
def GT (t:Term):Prop:=cOK t/\t.Fs.length<=1000/\∀ f∈t.Fs,GF f
def VT (t:Term):Prop:=GT t/\Srf t.Fs/\t.Fs.length<=64/\∀ f∈t.Fs,eOK f/\f.Exp<=64
theorem zOt {a:yB} (h:zcx a=true) (hw:zfd a):Srs a/\a.length<=512/\∀ t∈a,VT t:=by
 have h9:=z4P h (Nat.le_refl 9);rw [zZM] at h;obtain ⟨w1,w2,w3,w4⟩:=ztt (zAa h);have hall:=h;simp only [zxZ,qc] at hall;refine ⟨zwq (R:=λx y=>cT x y<0) (λx y z h1 h2=>zP0 h1 h2) a λk hk hl=> ?_,w1,λt ht=> ?_⟩
 ·have:=zdt.1 hall.2 k (by omega) (by omega)
  simp only [zBm,qc,Bool.or_eq_true,qe] at this;rcases this.1.2 with e | e
  ·omega
  ·exact e
 ·obtain ⟨hc,hok⟩:=zlr h ht;obtain ⟨l1,l2⟩:=w4 t ht;have hwt:=zmL (ztX (zqw hw t ht)).2.1;refine ⟨⟨hc,by omega,λf hf=> ?_⟩,zwq (R:=λx y=>cF x y<0) (λx y z h1 h2=>zOi h1 h2) _ λk hk hl=> ?_,l1,λf hf=> ?_⟩
  ·obtain ⟨⟨e1,_⟩,hv⟩:=ziB hok hf;exact ⟨⟨by rw [z8u (Nat.le_refl 9)]; exact hv,(zpe (hwt f hf)).1,(l2 f hf).2⟩,e1,by have:=(l2 f hf).1; omega⟩
  ·have:=zdt.1 hok k (by omega) (by omega)
   simp only [zLO,qc,Bool.or_eq_true,qe] at this;rcases this.1.2 with e | e
   ·omega
   ·exact e
  ·obtain ⟨⟨_,e2⟩,hv⟩:=ziB hok hf;exact ⟨⟨zBC hv,e2⟩,(l2 f hf).1⟩
theorem z7y {m:Nat} {x:At} (h:zd0 (zbU m) x=true) (hi:x.Items.length<=1024):zd2 (zG 9) x:=by
 cases zdJ.1 h with
 | var r h=>exact ⟨⟨by simp,by simp,by show (ByteArray.mk #[]).size<=_; decide⟩,λa ha=>(by cases ha),λw hw=>(by cases hw)⟩
 | mon b c hb hc _ _ _=>
  refine ⟨⟨by simp,by simp,by show (ByteArray.mk #[]).size<=_; decide⟩,λy hy=> ?_,λw hw=>(by cases hw)⟩
  simp only [qd,List.not_mem_nil,or_false] at hy;rcases hy with rfl | rfl
  ·exact (zen hb).1
  ·exact (zen hc).1
 | del b hb _ _ _=>
  refine ⟨⟨by simp,by simp,by show (ByteArray.mk #[]).size<=_; decide⟩,λy hy=> ?_,λw hw=>(by cases hw)⟩
  rw [qh] at hy; subst hy; exact (zen hb).1
 | abs b hb _ _=>
  refine ⟨⟨by simp,by simp,by show (ByteArray.mk #[]).size<=_; decide⟩,λy hy=> ?_,λw hw=>(by cases hw)⟩
  rw [qh] at hy; subst hy; exact (zen hb).1
 | tst f l o b hl hv hs hf=>
  obtain ⟨_,hb,hit⟩:=zqA hf;simp only at hi;exact ⟨⟨by simp,by simp only; omega,by have:=zqY hb; simp only; omega⟩,λa ha=>(by cases ha),λw hw=>⟨by have:=zqY (hit w hw).1; omega,(zen (hv w hw).1).1⟩⟩
theorem GT.fine {t:Term} (h:GT t):zhf (zG 9) t.Fs:=⟨by have:=h.2.1; omega,λf hf=>z7y (h.2.2 f hf).1.1 (h.2.2 f hf).1.2.2⟩
theorem GF.gF {f:Fc} (h:GF f):gF (zbU 9) f:=⟨h.1.1,h.1.2.1,by constructor <;>(have:=h.2; omega)⟩
theorem GT.inj {s t:Term} (hs:GT s) (ht:GT t) (h:bs (txL s.Fs)=bs (txL t.Fs)):s.Fs=t.Fs:=
 zbbi (λf hf=>(hs.2.2 f hf).gF) (λf hf=>(ht.2.2 f hf).gF) (z85 h)
mutual
theorem z5T:∀ x:At,zeB x<=zCM x
 | ⟨_,_,a,_,i,_,_⟩=>by
  rw [zeB,zCM];have h1:=zWo a;have h2:=zTE i;omega
theorem zMV:∀ l:yC,zbw l<=zgx l
 | []=>by rw [zbw,zgx]; exact Nat.le_refl _
 | ⟨x,_⟩::r=>by
  rw [zbw,zgx];have h1:=z5T x;have h2:=zMV r;omega
theorem zGy:∀ l:yB,zP l<=zdH l
 | []=>by rw [zP,zdH]; exact Nat.le_refl _
 | ⟨_,fs⟩::r=>by
  rw [zP,zdH];have h1:=zMV fs;have h2:=zGy r;omega
theorem zWo:∀ l:yA,zer l<=zor l
 | []=>by rw [zer,zor]; exact Nat.le_refl _
 | a::r=>by
  rw [zer,zor];have h1:=zGy a;have h2:=zWo r;omega
theorem zTE:∀ l:yD,zcQ l<=l.length+zjX l
 | []=>by rw [zcQ,zjX]; exact Nat.zero_le _
 | ⟨_,a⟩::r=>by
  rw [zcQ,zjX];have h1:=zGy a;have h2:=zTE r;simp only [qf];omega
end
theorem z92 (d:Nat):zG (d+1) []:=⟨by simp,λt ht=>by cases ht⟩
theorem zMK {B:Nat}:∀ l:yC,(∀ f∈l,zeB f.At<=B)->zbw l<=l.length*B
 | [],_=>by rw [zoj]; simp
 | f::r,h=>by
  have h1:=h f (by simp)
  have h2:=zMK r λg hg=>h g (by simp [hg])
  rw [zdQ,qf,Nat.add_mul]; omega
theorem zZc {B:Nat}:∀ l:yB,(∀ t∈l,1+t.Fs.length+zbw t.Fs<=B)->zP l<=l.length*B
 | [],_=>by rw [zA2]; simp
 | f::r,h=>by
  have h1:=h f (by simp)
  have h2:=zZc r λg hg=>h g (by simp [hg])
  rw [zhh,qf,Nat.add_mul]; omega
theorem zbda {l:yB} (hl:l.length<=1000000) (h:∀ t∈l,GT t):zG 10 l/\zP l<=4611686018427387904:=by
 refine ⟨⟨hl,λt ht=>(h t ht).fine⟩, ?_⟩
 refine Nat.le_trans (zZc (B:=4195330000) l λt ht=> ?_) (by have:=Nat.mul_le_mul hl (Nat.le_refl 4195330000); omega)
 have hg:=h t ht;have h1:=zMK (B:=4195328) t.Fs λf hf=>zWD (hg.2.2 f hf).1.1 (hg.2.2 f hf).1.2.2
 have:=Nat.mul_le_mul hg.2.1 (Nat.le_refl 4195328);have:=hg.2.1;omega
theorem zbc7 {t:Term} (ht:GT t) {l:yB} (hs:Srs l) (h:∀ x∈l,GT x):∀ x∈zoN t l,GT x:=λx hx=>by
 have hc:=z68 ht.1 (λy hy=>(h y hy).1) x hx
 rcases (zUB hs).1 hx with ⟨h1,_⟩ | ⟨h1,_⟩
 ·exact h x h1
 ·exact ⟨hc,by rw [h1]; exact ht.2⟩
theorem z4n:∀ (b a:yB),Srs a->(∀ x∈a,GT x)->(∀ x∈b,GT x)->∀ x∈zvu a b,GT x
 | [],_,_,ha,_=>ha
 | t::r,a,hs,ha,hb=>z4n r (zoN t a) (zUD hs) (zbc7 (hb t (by simp)) hs ha) λx hx=>hb x (by simp [hx])
theorem z9X {x y:Term} (hx:VT x) (hy:VT y):GT (z7A x y):=by
 obtain ⟨gx,sx,lx,ex⟩:=hx;obtain ⟨gy,sy,ly,ey⟩:=hy;refine ⟨(z6W gx.1 gy.1).1,by have:=zOK x.Fs y.Fs; show (zeR x.Fs y.Fs).length<=1000; omega,λf hf=> ?_⟩
 obtain ⟨g,hg,e⟩:=ztm hf;have hb:=zOh (B:=64) (λz hz=>⟨(gx.2.2 z hz).2.1,(ex z hz).2⟩) (λz hz=>⟨(gy.2.2 z hz).2.1,(ey z hz).2⟩) hf
 have hv:(zd0 (zbU 9) g.At=true/\zfP g.At/\g.At.Items.length<=1024):=by
  rcases hg with hg | hg
  ·exact (gx.2.2 g hg).1
  ·exact (gy.2.2 g hg).1
 exact ⟨by rw [e]; exact hv,hb.1,by omega⟩
theorem zbaq {a b:yB} (ha:∀ t∈a,VT t) (hb:∀ t∈b,VT t):∀ t∈zBH a b,GT t:=λt ht=>by
 obtain ⟨x,hx,y,hy,rfl⟩:=z2a ht;exact z9X (ha x hx) (hb y hy)
def okA (a:yB):Prop:=(zG 12 a/\zP a<=4611686018427387904)/\zfd a/\a.length<=z6
def opR (ok:Bool) (r:yB×Int):yB×Int:=bif ok then r else ([],1)
def z9u (a b:yB):yB×Int:=opR (zcx a&&zcx b) (zLp (zvu a b))
def z9H (a b:yB):yB×Int:=opR (zcx a&&zcx b) (zLp (zZU a b))
def zbdd (a b:yB):At:=⟨1,⟨0,0⟩,[a,b],0,[],0,⟨0,0,ByteArray.mk #[]⟩⟩
def zbc4 (a:yB):At:=⟨2,⟨0,0⟩,[a],0,[],0,⟨0,0,ByteArray.mk #[]⟩⟩
def zbcZ (a:yB):At:=⟨3,⟨0,0⟩,[a],0,[],0,⟨0,0,ByteArray.mk #[]⟩⟩
def z9I (a b:yB):yB×Int:=opR (zcx a&&zcx b) (if b=[] then (a,0) else if a=[]\/a=b then ([],0) else zLp (zke (zbdd a b)))
def z9G (a:yB):yB×Int:=opR (zcx a) (if a=[]\/isU a=true then (a,0) else if isC a=true then ([⟨1,[]⟩],0) else zLp (zke (zbc4 a)))
def z9E (a:yB):yB×Int:=opR (zcx a) (if a=[] then ([⟨1,[]⟩],0) else if zzs a=true then ([],0) else zLp (zke (zbcZ a)))
theorem okA.valid {a:yB} (h:okA a):zb7 a=(true,zcx a):=z8n h.1.1 (by omega) h.1.2
theorem okA.rvalid {a:yB} (h:okA a):zyr a=(true,zcx a):=z62 h.1.1 (by omega) h.1.2
theorem z9x {l:yA} {k:Int} (hl:l.length<=2) (h:∀ a∈l,zcx a=true):zG 10 (zke ⟨k,⟨0,0⟩,l,0,[],0,⟨0,0,ByteArray.mk #[]⟩⟩)/\zP (zke ⟨k,⟨0,0⟩,l,0,[],0,⟨0,0,ByteArray.mk #[]⟩⟩)<=4611686018427387904:=by
 constructor
 ·exact zTe ⟨⟨by simp only; omega,by simp,by show (ByteArray.mk #[]).size<=_; decide⟩,λa ha=>(zen (h a ha)).1,λw hw=>(by cases hw)⟩
 ·rw [z3R,zgy]
  have hb:∀ l:yA,(∀ a∈l,zcx a=true)->zer l<=l.length*4096:=λl=>by
   induction l with
   | nil=>intro _; rw [zhg]; simp
   | cons a r ih=>
    intro h;have h1:=(zen (h a (by simp))).2.1
    have h2:=ih λb hb=>h b (by simp [hb])
    rw [zeh,qf,Nat.add_mul]; omega
  have:=hb l h;show 2+(zer l+zcQ [])<=_;rw [zfQ];have:=Nat.mul_le_mul hl (Nat.le_refl 4096);omega
theorem zSm {n:Int} (h:rng n):wf3 n:=by
 show (Lit.int .i64 n).wf=true;have:IntKind.i64.min<=n/\n<=IntKind.i64.max:=⟨h.1,h.2⟩
 simpa [Lit.wf] using this
theorem zSs {t:Term} (hc:rng t.Cf) (hf:∀ f∈t.Fs,zfP f.At/\rng f.Exp) (hl:t.Fs.length<=1000000):zyB t:=by
 obtain ⟨c,fs⟩:=t;unfold zyB;refine ⟨zSm hc,zIW fs λf h=> ?_,by have:z6=140737488351232:=rfl; simp only at hl; omega⟩
 obtain ⟨x,e⟩:=f;unfold ztK;exact ⟨(hf _ h).1,zSm (hf _ h).2⟩
def okR (r:yB×Int):Prop:=okA r.1/\(r.2=0\/r.1=[])
theorem zsr:okA []:=⟨⟨z92 11,by rw [zA2]; omega⟩,by unfold zfd; trivial,by simp⟩
theorem zHt {a:yB} (h:okA a):okR (zLp a):=by
 unfold zLp;cases zkm a with
 | true=>exact ⟨h,.inl rfl⟩
 | false=>exact ⟨zsr,.inr rfl⟩
theorem zSb {ok:Bool} {r:yB×Int} (h:ok=true->okR r):okR (opR ok r):=by
 unfold opR;cases ok with
 | true=>exact h rfl
 | false=>exact ⟨zsr,.inr rfl⟩
theorem z1s {l:yB} (hl:l.length<=1000000) (h:∀ t∈l,GT t):okA l:=by
 obtain ⟨h1,h2⟩:=zbda hl h;refine ⟨⟨h1.mono (by omega),h2⟩,zCV l λt ht=> ?_,by have:z6=140737488351232:=rfl; omega⟩
 have hg:=h t ht;exact zSs ⟨by have:=hg.1.1; omega,by have:=hg.1.2; omega⟩ (λf hf=>⟨(hg.2.2 f hf).1.2.1,(hg.2.2 f hf).gF.2.2⟩) (by have:=hg.2.1; omega)
theorem zbbO {a b:yB} (ha:okA a) (hb:okA b):okR (z9u a b):=zSb λhv=>by
 rw [qc] at hv;obtain ⟨sa,la,ta⟩:=zOt hv.1 ha.2.1;obtain ⟨sb,lb,tb⟩:=zOt hv.2 hb.2.1;exact zHt (z1s (by have:=z1f b a; omega) (z4n b a sa (λt ht=>(ta t ht).1) λt ht=>(tb t ht).1))
theorem zbaR {a b:yB} (ha:okA a) (hb:okA b):okR (z9H a b):=zSb λhv=>by
 rw [qc] at hv;obtain ⟨sa,la,ta⟩:=zOt hv.1 ha.2.1;obtain ⟨sb,lb,tb⟩:=zOt hv.2 hb.2.1;have hpl:(zBH a b).length<=1000000:=by rw [z8G]; have:=Nat.mul_le_mul la lb; omega
 exact zHt (z1s (by have:=z1f (zBH a b) []; simp at this; exact Nat.le_trans this hpl) (z4n (zBH a b) [] .nil (λt ht=>by cases ht) (zbaq ta tb)))
theorem z9L {x:At} (hf:zd2 (zG 9) x) (hs:zP (zke x)<=4611686018427387904) (hw:zfP x):okA (zke x):=by
 refine ⟨⟨(zTe hf).mono (by omega),hs⟩,zCV _ λt ht=> ?_,by simp [zke,z6]⟩
 simp only [zke,qh] at ht;subst ht;refine zSs ⟨by simp,by simp⟩ (λf hf=> ?_) (by simp)
 simp only [qh] at hf;subst hf;exact ⟨hw,⟨by simp,by simp⟩⟩
theorem zTi {n:Int} (h: -1000<=n/\n<=1000):rng n:=⟨by omega,by omega⟩
theorem zAd:wf3 0:=zSm (zTi (by omega))
theorem zS9 {l:yA} {k:Int} (hk:0<=k/\k<=4) (hl:l.length<=2) (h:∀ a∈l,zcx a=true) (hw:∀ a∈l,okA a):okA (zke ⟨k,⟨0,0⟩,l,0,[],0,⟨0,0,ByteArray.mk #[]⟩⟩):=by
 refine z9L ⟨⟨by simp only; omega,by simp,by show (ByteArray.mk #[]).size<=_; decide⟩,λa ha=>(zen (h a ha)).1,λw hw=>(by cases hw)⟩ (z9x hl h).2 ?_
 unfold zfP;have hr:z6=140737488351232:=rfl;refine ⟨zSm (zTi (by omega)),⟨zAd,zAd⟩,⟨zTw l λa ha=>⟨(hw a ha).2.1,(hw a ha).2.2⟩,by omega⟩,zAd,⟨by unfold zsj; trivial,by simp⟩,zAd,⟨zAd,zAd, ?_⟩⟩
 show (ByteArray.mk #[]).size<=z6;rw [hr]; decide
theorem zbbu {a b:yB} (ha:okA a) (hb:okA b):okR (z9I a b):=zSb λhv=>by
 rw [qc] at hv;split
 ·exact ⟨ha,.inl rfl⟩
 ·split
  ·exact ⟨zsr,.inl rfl⟩
  ·refine zHt (zS9 (by omega) (by simp) (λx hx=> ?_) λx hx=> ?_)
   ·simp only [qd,List.not_mem_nil,or_false] at hx;rcases hx with rfl | rfl
    ·exact hv.1
    ·exact hv.2
   ·simp only [qd,List.not_mem_nil,or_false] at hx;rcases hx with rfl | rfl
    ·exact ha
    ·exact hb
theorem zUR (c:Int) (hc:1<=c/\c<=1152921504606846976):okA [⟨c,[]⟩]:=z1s (by simp) λt ht=>by
 rw [qh] at ht; subst ht;exact ⟨hc,by simp,λf hf=>by cases hf⟩
theorem zbbE {a:yB} (ha:okA a):okR (z9G a):=zSb λhv=>by
 split
 ·exact ⟨ha,.inl rfl⟩
 ·split
  ·exact ⟨zUR 1 (by omega),.inl rfl⟩
  ·exact zHt (zS9 (by omega) (by simp) (λx hx=>by rw [qh] at hx; subst hx; exact hv) λx hx=>by rw [qh] at hx; subst hx; exact ha)
theorem zbb2 {a:yB} (ha:okA a):okR (z9E a):=zSb λhv=>by
 split
 ·exact ⟨zUR 1 (by omega),.inl rfl⟩
 ·split
  ·exact ⟨zsr,.inl rfl⟩
  ·exact zHt (zS9 (by omega) (by simp) (λx hx=>by rw [qh] at hx; subst hx; exact hv) λx hx=>by rw [qh] at hx; subst hx; exact ha)
def z1T (n:Int):yB:=if n<1 then [] else [⟨if 1152921504606846976<n then 1152921504606846976 else n,[]⟩]
def zbdU (id:RowID):yB:=bif zDs id then zke ⟨0,id,[],0,[],0,⟨0,0,ByteArray.mk #[]⟩⟩ else []
theorem zbcN (n:Int):okA (z1T n):=by
 unfold z1T;split
 ·exact zsr
 ·refine zUR _ ?_;split <;>omega
theorem zbbV {a:yB} {n:Nat} (hn:n<=1000) (h:zG 12 a/\zdH a<=n) (hw:z34 a):okA a:=⟨⟨h.1,by have:=zGy a; omega⟩,hw.1,hw.2⟩
def MF (l:yC):Prop:=Srf l/\∀ f∈l,eOK f/\1<=f.Exp
theorem MF.tail {f:Fc} {l:yC} (h:MF (f::l)):MF l:=⟨(qi.1 h.1).2,λg hg=>h.2 g (by simp [hg])⟩
theorem MF.nil:MF []:=⟨List.Pairwise.nil,λf hf=>by cases hf⟩
theorem cF_self' {x y:Fc} (h:x.At=y.At):cF x y=0:=by unfold cF; rw [h]; exact zSo _
theorem MF.ne {f:Fc} {l:yC} (h:MF (f::l)):∀ g∈l,g.At≠f.At:=λg hg e=>by
 have:=(qi.1 h.1).1 g hg;rw [cF_self' e.symm] at this; omega
theorem zbah {a b:yC}:Srf a->Srf b->Srf (zeR a b):=by
 induction a,b using zeR.induct with
 | case1 b=>intro _ hb; rw [zeR]; exact hb
 | case2 x a=>intro ha _; rw [zeR]; exact ha
 | case3 x a y b h ih=>
  intro ha hb;have ca:=qi.1 ha;rw [zeR,if_pos h];refine qi.2 ⟨λz hz=> ?_,ih ca.2 hb⟩
  obtain ⟨w,hw,e⟩:=ztm hz;have:cF x z=cF x w:=by unfold cF; rw [e]
  rw [this];rcases hw with hw | hw
  ·exact ca.1 w hw
  ·rcases qd.1 hw with rfl | hw
   ·exact h
   ·exact zOi h ((qi.1 hb).1 w hw)
 | case4 x a y b h h2 ih=>
  intro ha hb;have cb:=qi.1 hb;rw [zeR,if_neg h,if_pos h2];have h3:cF y x<0:=by rw [zbbs x y]; omega
  refine qi.2 ⟨λz hz=> ?_,ih ha cb.2⟩
  obtain ⟨w,hw,e⟩:=ztm hz;have:cF y z=cF y w:=by unfold cF; rw [e]
  rw [this];rcases hw with hw | hw
  ·rcases qd.1 hw with rfl | hw
   ·exact h3
   ·exact zOi h3 ((qi.1 ha).1 w hw)
  ·exact cb.1 w hw
 | case5 x a y b h h2 ih=>
  intro ha hb;have ca:=qi.1 ha;have cb:=qi.1 hb;have h0:x.At=y.At:=zbbl (by omega)
  rw [zeR,if_neg h,if_neg h2];have hA:(if x.At.Kind=3\/x.At.Kind=4 then x else ⟨x.At,x.Exp+y.Exp⟩:Fc).At=x.At:=by split <;>rfl
  refine qi.2 ⟨λz hz=> ?_,ih ca.2 cb.2⟩
  obtain ⟨w,hw,e⟩:=ztm hz;have:cF (if x.At.Kind=3\/x.At.Kind=4 then x else ⟨x.At,x.Exp+y.Exp⟩:Fc) z=cF x w:=by unfold cF; rw [e,hA]
  rw [this];rcases hw with hw | hw
  ·exact ca.1 w hw
  ·have:cF x w=cF y w:=by unfold cF; rw [h0]
   rw [this]; exact cb.1 w hw
theorem zbas {a b:yC}:(∀ f∈a,eOK f/\1<=f.Exp)->(∀ f∈b,eOK f/\1<=f.Exp)->∀ f∈zeR a b,eOK f/\1<=f.Exp:=by
 induction a,b using zeR.induct with
 | case1 b=>intro _ hb; rw [zeR]; exact hb
 | case2 x a=>intro ha _; rw [zeR]; exact ha
 | case3 x a y b h ih=>
  intro ha hb f hf;rw [zeR,if_pos h] at hf;rcases qd.1 hf with rfl | hf
  ·exact ha _ (by simp)
  ·exact ih (λg hg=>ha g (by simp [hg])) hb f hf
 | case4 x a y b h h2 ih=>
  intro ha hb f hf;rw [zeR,if_neg h,if_pos h2] at hf;rcases qd.1 hf with rfl | hf
  ·exact hb _ (by simp)
  ·exact ih ha (λg hg=>hb g (by simp [hg])) f hf
 | case5 x a y b h h2 ih=>
  intro ha hb f hf;rw [zeR,if_neg h,if_neg h2] at hf;rcases qd.1 hf with rfl | hf
  ·have h1:=ha x (by simp)
   have h2:=hb y (by simp)
   split
   ·exact h1
   ·rename_i hk;exact ⟨⟨h1.1.1,λh=>absurd h hk⟩,by show 1<=x.Exp+y.Exp; omega⟩
  ·exact ih (λg hg=>ha g (by simp [hg])) (λg hg=>hb g (by simp [hg])) f hf
theorem zbbH {a b:yC} (ha:MF a) (hb:MF b):MF (zeR a b):=⟨zbah ha.1 hb.1,zbas ha.2 hb.2⟩
def EqS (n m:Nat):Prop:=n=m\/(1152921504606846976<=n/\1152921504606846976<=m)
theorem EqS.refl (n:Nat):EqS n n:=.inl rfl
theorem EqS.symm {n m:Nat} (h:EqS n m):EqS m n:=by unfold EqS at *; omega
theorem EqS.trans {n m k:Nat} (h:EqS n m) (h':EqS m k):EqS n k:=by unfold EqS at *; omega
theorem EqS.add {n m n' m':Nat} (h:EqS n n') (h':EqS m m'):EqS (n+m) (n'+m'):=by unfold EqS at *; omega
theorem EqS.mul1 {n n':Nat} (k:Nat) (h:EqS n n'):EqS (n*k) (n'*k):=by
 rcases h with rfl | ⟨h1,h2⟩
 ·exact .refl _
 ·rcases Nat.eq_zero_or_pos k with rfl | hk
  ·exact .inl (by simp)
  ·exact .inr ⟨Nat.le_trans h1 (Nat.le_mul_of_pos_right n hk),Nat.le_trans h2 (Nat.le_mul_of_pos_right n' hk)⟩
theorem EqS.mul {n m n' m':Nat} (h:EqS n n') (h':EqS m m'):EqS (n*m) (n'*m'):=by
 refine (h.mul1 m).trans ?_;rw [Nat.mul_comm n' m,Nat.mul_comm n' m'];exact h'.mul1 n'
def PA (a:yB):Prop:=Srs a/\∀ t∈a,cOK t/\MF t.Fs
theorem PA.c {a:yB} (h:PA a):∀ t∈a,cOK t:=λt ht=>(h.2 t ht).1
theorem zbdc {a b:yB} (ha:PA a) (hb:PA b):PA (zvu a b):=⟨z6N _ _ ha.1,λt ht=>⟨zbaG b ha.c hb.c t ht,by
 obtain ⟨x,hx,e⟩:=zMi b a ha.1 ht;rw [e];rcases hx with hx | hx
 ·exact (ha.2 x hx).2
 ·exact (hb.2 x hx).2⟩⟩
theorem PA.nil:PA []:=⟨List.Pairwise.nil,λt ht=>by cases ht⟩
theorem zHN {τ:Type} [Inhabited τ] {R:τ->τ->Prop}:∀ {l:List τ},l.Pairwise R->∀ k,0<k->k<l.length->R (l.getD (k - 1) default) (l.getD k default)
 | [],_,k,_,h=>by simp at h
 | x::r,h,0,h0,_=>by omega
 | x::r,h,1,_,h1=>(qi.1 h).1 _ (zL (by simpa using h1))
 | x::r,h,k+2,_,h1=>zHN (qi.1 h).2 (k+1) (by omega) (by simp only [qf] at h1; omega)
def OKF (vat:At->Bool) (fs:yC):Prop:=Srf fs/\∀ f∈fs,(1<=f.Exp/\(f.At.Kind=3\/f.At.Kind=4->f.Exp=1))/\vat f.At=true
theorem z6F {vat:At->Bool} {fs:yC}:okF vat fs=true↔OKF vat fs:=by
 constructor
 ·intro h;refine ⟨zwq (R:=λx y=>cF x y<0) (λx y z h1 h2=>zOi h1 h2) _ λk hk hl=> ?_,λf hf=>ziB h hf⟩
  have:=zdt.1 h k (by omega) (by omega)
  simp only [zLO,qc,Bool.or_eq_true,qe] at this;rcases this.1.2 with e | e
  ·omega
  ·exact e
 ·intro h;refine zdt.2 λk _ hk=> ?_
  have hm:=h.2 _ (zL (l:=fs) (i:=k) (by omega))
  simp only [zLO,qc,Bool.or_eq_true,qe,Bool.not_eq_true',Bool.and_eq_false_iff];refine ⟨⟨⟨hm.1.1, ?_⟩, ?_⟩,hm.2⟩
  ·by_cases hk:(fs.getD k default).At.Kind=3\/(fs.getD k default).At.Kind=4
   ·right; rw [hm.1.2 hk]; rfl
   ·left
    rw [Bool.or_eq_false_iff];constructor
    ·simpa using λe=>hk (.inl e)
    ·simpa using λe=>hk (.inr e)
  ·by_cases h0:k=0
   ·exact .inl h0
   ·exact .inr (zHN h.1 k (by omega) (by omega))
theorem z9v {vat:At->Bool} {a:yB}:zxZ vat a=true↔zkm a=true/\Srs a/\∀ t∈a,cOK t/\OKF vat t.Fs:=by
 constructor
 ·intro h;have hall:=h;simp only [zxZ,qc] at hall;refine ⟨hall.1,zwq (R:=λx y=>cT x y<0) (λx y z h1 h2=>zP0 h1 h2) a λk hk hl=> ?_,λt ht=>⟨(zlr h ht).1,z6F.1 (zlr h ht).2⟩⟩
  have:=zdt.1 hall.2 k (by omega) (by omega)
  simp only [zBm,qc,Bool.or_eq_true,qe] at this;rcases this.1.2 with e | e
  ·omega
  ·exact e
 ·rintro ⟨h1,h2,h3⟩
  simp only [zxZ,qc];refine ⟨h1,zdt.2 λk _ hk=> ?_⟩
  have hm:=h3 _ (zL (l:=a) (i:=k) (by omega))
  simp only [zBm,qc,Bool.or_eq_true,qe];refine ⟨⟨⟨hm.1.1,hm.1.2⟩, ?_⟩,z6F.2 hm.2⟩;by_cases h0:k=0
  ·exact .inl h0
  ·exact .inr (zHN h2 k (by omega) (by omega))
def QA (a:yB):Prop:=Srs a/\∀ t∈a,cOK t/\OKF zA4 t.Fs
theorem z8a {a:yB}:zcx a=true↔zkm a=true/\QA a:=by rw [zZM]; exact z9v
theorem OKF.mf {fs:yC} (h:OKF zA4 fs):MF fs:=⟨h.1,λf hf=>⟨⟨zBC (h.2 f hf).2,(h.2 f hf).1.2⟩,(h.2 f hf).1.1⟩⟩
theorem QA.pa {a:yB} (h:QA a):PA a:=⟨h.1,λt ht=>⟨(h.2 t ht).1,(h.2 t ht).2.mf⟩⟩
theorem z9h {a:yB} (h:zcx a=true):QA a:=(z8a.1 h).2
theorem z9j {a:yB} (h:zcx a=true):PA a:=(z9h h).pa
theorem MF.okf {fs:yC} (h:MF fs) (hv:∀ f∈fs,zA4 f.At=true):OKF zA4 fs:=⟨h.1,λf hf=>⟨⟨(h.2 f hf).2,(h.2 f hf).1.2⟩,hv f hf⟩⟩
theorem OKF.join {a b:yC} (ha:OKF zA4 a) (hb:OKF zA4 b):OKF zA4 (zeR a b):=(zbbH ha.mf hb.mf).okf λf hf=>by
 obtain ⟨y,hy,e⟩:=ztm hf;rw [e];rcases hy with hy | hy
 ·exact (ha.2 y hy).2
 ·exact (hb.2 y hy).2
theorem QA.nil:QA []:=⟨List.Pairwise.nil,λt ht=>by cases ht⟩
def sbd {α β:Type} (x:Int⊕α) (k:α->Int⊕β):Int⊕β:=match x with
 | .inl e=>.inl e
 | .inr a=>k a
def opS (r:yB×Int):Int⊕yB:=if r.2=0 then .inr r.1 else .inl r.2
def ofS:Int⊕yB->yB×Int
 | .inl e=>([],e)
 | .inr a=>(a,0)
def z7e (b:yB):Nat->yB->Int⊕yB
 | 0,p=>.inr p
 | n+1,p=>sbd (opS (z9H p b)) (z7e b n)
mutual
def zSx (to:RowID->yB):At->Int⊕yB
 | ⟨k,r,a,f,i,o,b⟩=>if k=0 then .inr (to r) else
  sbd (zyk to a) λxs=>if k=1 then opS (z9I (xs.getD 0 default) (xs.getD 1 default)) else if k=2 then opS (z9G (xs.getD 0 default)) else if k=3 then opS (z9E (xs.getD 0 default)) else
   sbd (zuZ to i) λis=>opS (zZ2 f is o b)
def ztd (to:RowID->yB):yC->yB->Int⊕yB
 | [],p=>.inr p
 | ⟨x,e⟩::r,p=>sbd (zSx to x) λb=>sbd (z7e b e.toNat p) λq=>ztd to r q
def zqS (to:RowID->yB):yB->yB->Int⊕yB
 | [],s=>.inr s
 | ⟨c,fs⟩::r,s=>sbd (ztd to fs (z1T c)) λp=>sbd (opS (z9u s p)) λq=>zqS to r q
def zyk (to:RowID->yB):yA->Int⊕yA
 | []=>.inr []
 | a::r=>sbd (zqS to a []) λb=>sbd (zyk to r) λl=>.inr (b::l)
def zuZ (to:RowID->yB):yD->Int⊕yD
 | []=>.inr []
 | ⟨v,a⟩::r=>sbd (zqS to a []) λb=>sbd (zuZ to r) λl=>.inr (⟨v,b⟩::l)
end
variable (to:RowID->yB)
def GE {α:Type} (P:α->Prop):Int⊕α->Prop
 | .inl e=>e≠0
 | .inr a=>P a
abbrev GS:Int⊕yB->Prop:=GE okA
theorem zUL {r:yB×Int} (h:okR r):GS (opS r):=by
 unfold opS;by_cases he:r.2=0
 ·rw [if_pos he]; exact h.1
 ·rw [if_neg he]; exact he
theorem zOT {α β:Type} {P:α->Prop} {Q:β->Prop} {x:Int⊕α} {k:α->Int⊕β} (hx:GE P x) (hk:∀ a,P a->GE Q (k a)):GE Q (sbd x k):=by
 cases x with
 | inl e=>exact hx
 | inr a=>exact hk a hx
theorem z89 {b:yB} (hb:okA b):∀ (n:Nat) (p:yB),okA p->GS (z7e b n p)
 | 0,p,hp=>hp
 | n+1,p,hp=>zOT (zUL (zbaR hp hb)) λq hq=>z89 hb n q hq
abbrev GL (n:Nat):Int⊕yA->Prop:=GE λl=>l.length=n/\∀ a∈l,okA a
abbrev GI (i:yD):Int⊕yD->Prop:=GE λl=>l.length=i.length/\∀ w∈l,okA w.Ann/\∃ v∈i,v.Value=w.Value
theorem z60 (w:Wd):zEe w↔zKW w.Value/\zfd w.Ann/\w.Ann.length<=z6:=by cases w; unfold zEe; exact Iff.rfl
theorem z79 {k f o:Int} {r:RowID} {a:yA} {i:yD} {b:Value} (h1:wf3 k) (h2:z1S r) (h3:zwx a/\a.length<=z6) (h4:wf3 f) (h5:zsj i/\i.length<=z6) (h6:wf3 o) (h7:zKW b):zfP ⟨k,r,a,f,i,o,b⟩:=by
 unfold zfP; exact ⟨h1,h2,h3,h4,h5,h6,h7⟩
theorem z8s {f o:Int} {l:yD} {b:Value} (hl:l.length<=1000000) (h:∀ w∈l,okA w.Ann/\zKW w.Value) (hf:wf3 f) (ho:wf3 o) (hb:zKW b):okR (zZ2 f l o b):=by
 unfold zZ2;cases hk:zBc f l o b with
 | false=>exact ⟨zsr,.inr rfl⟩
 | true=>
  cases hv:l.all λw=>zcx w.Ann with
  | false=>exact ⟨zsr,.inr rfl⟩
  | true=>
   simp only [Bool.and_self,Bool.not_true,cond_false];cases decide (0<(zls l).length) with
   | true=>
    obtain ⟨tf,ts⟩:=z9q hl hk hv;have hr:z6=140737488351232:=rfl;have hlen:(zls l).length<=1000000:=by rw [z0e]; exact Nat.le_trans (List.length_filter_le _ _) hl
    refine zHt ⟨⟨tf.mono (by omega),ts⟩,zCV _ λt ht=> ?_,by simp [zke,z6]⟩
    simp only [zke,qh] at ht;subst ht;refine zSs ⟨by simp,by simp⟩ (λg hg=> ?_) (by simp)
    simp only [qh] at hg;subst hg;refine ⟨z79 (zSm (zTi (by omega))) ⟨zAd,zAd⟩ ⟨by unfold zwx; trivial,by simp⟩ hf ⟨zO8 _ λw hw=> ?_,by omega⟩ ho hb,⟨by simp,by simp⟩⟩
    have hm:=h w (zHh hw).1;exact (z60 w).2 ⟨hm.2,hm.1.2⟩
   | false=>
    cases f==0&&z7C o (zdK 0 b.Int) with
    | true=>exact ⟨zUR 1 (by omega),.inl rfl⟩
    | false=>exact ⟨zsr,.inl rfl⟩
theorem z4s {l:yA} (h:∀ a∈l,okA a) (i:Nat):okA (l.getD i default):=by
 by_cases hi:i<l.length
 ·exact h _ (zL hi)
 ·rw [List.getD_eq_getElem?_getD,List.getElem?_eq_none (by omega)]; exact zsr
def okT (to:RowID->yB):Prop:=∀ r,z1S r->okA (to r)
variable {to}
mutual
theorem z8o (ht:okT to):∀ (x:At) (d:Nat),zfP x->zd2 (zG d) x->GS (zSx to x)
 | ⟨k,r,a,f,i,o,b⟩=>λd hw hi=>by
  have hw':=zqv hw;simp only at hw';obtain ⟨⟨ha,hal⟩,⟨hit,hil⟩,hb,hk,hr,hf,ho⟩:=hw';obtain ⟨⟨l1,l2,_⟩,f1,f2⟩:=hi;simp only at l1 l2 f1 f2;rw [zSx];by_cases hk0:k=0
  ·rw [if_pos hk0]; exact ht r hr
  ·rw [if_neg hk0];have hA:=z2p ht a d (λx hx=>(zjM ha x hx).1) f1
   refine zOT hA λxs has=> ?_
   have h0:=z4s has.2 0;have h1:=z4s has.2 1;split
   ·exact zUL (zbbu h0 h1)
   ·split
    ·exact zUL (zbbE h0)
    ·split
     ·exact zUL (zbb2 h0)
     ·have hI:=zZn ht i d (λx hx=>(zjo hit x hx).2.1) λw hw=>(f2 w hw).2
      refine zOT hI λis his=> ?_
      refine zUL (z8s (by omega) (λw hw=>⟨(his.2 w hw).1, ?_⟩) hf ho hb)
      obtain ⟨v,hv,e⟩:=(his.2 w hw).2;rw [<- e]; exact (zjo hit v hv).1
theorem zT2 (ht:okT to):∀ (l:yC) (d:Nat),(∀ f∈l,zfP f.At/\zd2 (zG d) f.At)->∀ p,okA p->GS (ztd to l p)
 | [],_,_,p,hp=>by rw [ztd]; exact hp
 | ⟨x,e⟩::r,d,h,p,hp=>by
  rw [ztd];have hx:=z8o ht x d (h ⟨x,e⟩ (by simp)).1 (h ⟨x,e⟩ (by simp)).2
  refine zOT hx λb hb=>zOT (z89 hb _ p hp) λq hq=> ?_
  exact zT2 ht r d (λf hf=>h f (by simp [hf])) q hq
theorem zXi (ht:okT to):∀ (a:yB) (d:Nat),zfd a->(∀ t∈a,∀ f∈t.Fs,zd2 (zG d) f.At)->∀ s,okA s->GS (zqS to a s)
 | [],_,_,_,s,hs=>by rw [zqS]; exact hs
 | ⟨c,fs⟩::r,d,hw,hi,s,hs=>by
  rw [zqS];have hwt:=zqw hw ⟨c,fs⟩ (by simp)
  have hp:=zT2 ht fs d (λf hf=>⟨(zpe (zmL (ztX hwt).2.1 f hf)).1,hi ⟨c,fs⟩ (by simp) f hf⟩) (z1T c) (zbcN c)
  refine zOT hp λp hp=>zOT (zUL (zbbO hs hp)) λq hq=> ?_
  exact zXi ht r d (zCV _ λt ht=>zqw hw t (by simp [ht])) (λt ht=>hi t (by simp [ht])) q hq
theorem z2p (ht:okT to):∀ (l:yA) (d:Nat),(∀ a∈l,zfd a)->(∀ a∈l,zG d a)->GL l.length (zyk to l)
 | [],_,_,_=>by rw [zyk]; exact ⟨rfl,λa ha=>by cases ha⟩
 | a::r,d,h,hi=>by
  rw [zyk];have hf:=hi a (by simp)
  have h1:GS (zqS to a []):=by
   cases d with
   | zero=>exact hf.elim
   | succ d=>exact zXi ht a d (h a (by simp)) (λt ht f hf'=>(hf.2 t ht).2 f hf') [] zsr
  have h2:=z2p ht r d (λb hb=>h b (by simp [hb])) (λb hb=>hi b (by simp [hb]))
  revert h1 h2;cases zqS to a [] with
  | inl e=>exact λh _=>h
  | inr b=>
   cases zyk to r with
   | inl e=>exact λ_ h=>h
   | inr l=>
    intro h1 h2;refine ⟨by simp [h2.1],λx hx=> ?_⟩
    rcases qd.1 hx with rfl | hx
    ·exact h1
    ·exact h2.2 x hx
theorem zZn (ht:okT to):∀ (l:yD) (d:Nat),(∀ w∈l,zfd w.Ann)->(∀ w∈l,zG d w.Ann)->GI l (zuZ to l)
 | [],_,_,_=>by rw [zuZ]; exact ⟨rfl,λa ha=>by cases ha⟩
 | ⟨v,a⟩::r,d,h,hi=>by
  rw [zuZ];have hf:zG d a:=hi ⟨v,a⟩ (by simp)
  have h1:GS (zqS to a []):=by
   cases d with
   | zero=>exact hf.elim
   | succ d=>exact zXi ht a d (h ⟨v,a⟩ (by simp)) (λt ht f hf'=>(hf.2 t ht).2 f hf') [] zsr
  have h2:=zZn ht r d (λb hb=>h b (by simp [hb])) (λb hb=>hi b (by simp [hb]))
  revert h1 h2;cases zqS to a [] with
  | inl e=>exact λh _=>h
  | inr b=>
   cases zuZ to r with
   | inl e=>exact λ_ h=>h
   | inr l=>
    intro h1 h2;refine ⟨by simp [h2.1],λx hx=> ?_⟩
    rcases qd.1 hx with rfl | hx
    ·exact ⟨h1,⟨v,a⟩,by simp,rfl⟩
    ·obtain ⟨h3,w,hw,e⟩:=h2.2 x hx;exact ⟨h3,w,by simp [hw],e⟩
end
end Go.Proofs.YtoknknbmfmddbaaGreatDoor
end
