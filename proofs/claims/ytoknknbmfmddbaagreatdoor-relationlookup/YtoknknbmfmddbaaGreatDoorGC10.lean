/- Texts of this claim, joined (the program, its functions in plain words, and what they compute). -/
import Derived.Test.YtoknknbmfmddbaaGreatDoorGC9
set_option autoImplicit false
set_option linter.unusedVariables false
set_option linter.unusedSectionVars false
set_option linter.unusedSimpArgs false
set_option maxRecDepth 1000000
set_option maxHeartbeats 0
/- Sums and products of valid annotations: both sides compute the same. -/
noncomputable section
namespace Go.Proofs.YtoknknbmfmddbaaGreatDoor
open Go Go.Ab
theorem zwK {τ:Type} [Inhabited τ] {R:τ->τ->Prop} (ht:∀ x y z,R x y->R y z->R x z):∀ l:List τ,(∀ k,0<k->k<l.length->R (l.getD (k - 1) default) (l.getD k default))->l.Pairwise R
 | [],_=>.nil
 | [x],_=>by simp
 | x::y::r,h=>by
  have h1:R x y:=h 1 (by omega) (by simp)
  have h2:=zwK ht (y::r) λk hk hl=>by
   have:=h (k+1) (by omega) (by simpa using hl)
   obtain ⟨j,rfl⟩:∃ j,k=j+1:=⟨k - 1,by omega⟩
   exact this
  refine qi.2 ⟨λz hz=> ?_,h2⟩
  rcases qd.1 hz with rfl | hz
  ·exact h1
  ·exact ht x y z h1 ((qi.1 h2).1 z hz)
def GF (f:Fc):Prop:=(zh1 (zcX 9) f.At=true/\ziG f.At/\f.At.Items.length<=1024)/\1<=f.Exp/\f.Exp<=1000000
def GT (t:Term):Prop:=cOK t/\t.Fs.length<=1000/\∀ f∈t.Fs,GF f
def VT (t:Term):Prop:=GT t/\Srf t.Fs/\t.Fs.length<=64/\∀ f∈t.Fs,eOK f/\f.Exp<=64
theorem zOs {a:yB} (h:ze7 a=true) (hw:zhr a):Srs a/\a.length<=512/\∀ t∈a,VT t:=by
 have h9:=z1l h (Nat.le_refl 9);rw [zXl] at h;obtain ⟨w1,w2,w3,w4⟩:=zA8 (zJD h);have hall:=h;simp only [zCx,qc] at hall;refine ⟨zwK (R:=λx y=>cT x y<0) (λx y z h1 h2=>zOk h1 h2) a λk hk hl=> ?_,w1,λt ht=> ?_⟩
 ·have:=zrr.1 hall.2 k (by omega) (by omega)
  simp only [zOc,qc,Bool.or_eq_true,qe] at this;rcases this.1.2 with e | e
  ·omega
  ·exact e
 ·obtain ⟨hc,hok⟩:=zzt h ht;obtain ⟨l1,l2⟩:=w4 t ht;have hwt:=zug (zAO (zwA hw t ht)).2.1;refine ⟨⟨hc,by omega,λf hf=> ?_⟩,zwK (R:=λx y=>cF x y<0) (λx y z h1 h2=>zPz h1 h2) _ λk hk hl=> ?_,l1,λf hf=> ?_⟩
  ·obtain ⟨⟨e1,_⟩,hv⟩:=zw2 hok hf;exact ⟨⟨by rw [z5v (Nat.le_refl 9)]; exact hv,(zv7 (hwt f hf)).1,(l2 f hf).2⟩,e1,by have:=(l2 f hf).1; omega⟩
  ·have:=zrr.1 hok k (by omega) (by omega)
   simp only [zV5,qc,Bool.or_eq_true,qe] at this;rcases this.1.2 with e | e
   ·omega
   ·exact e
  ·obtain ⟨⟨_,e2⟩,hv⟩:=zw2 hok hf;exact ⟨⟨zO1 hv,e2⟩,(l2 f hf).1⟩
theorem z4i {m:Nat} {x:At} (h:zh1 (zcX m) x=true) (hi:x.Items.length<=1024):zgK (zK 9) x:=by
 cases zhW.1 h with
 | var r h=>exact ⟨⟨by simp,by simp,by show (ByteArray.mk #[]).size<=_; decide⟩,λa ha=>(by cases ha),λw hw=>(by cases hw)⟩
 | mon b c hb hc _ _ _=>
  refine ⟨⟨by simp,by simp,by show (ByteArray.mk #[]).size<=_; decide⟩,λy hy=> ?_,λw hw=>(by cases hw)⟩
  simp only [qd,List.not_mem_nil,or_false] at hy;rcases hy with rfl | rfl
  ·exact (zgH hb).1
  ·exact (zgH hc).1
 | del b hb _ _ _=>
  refine ⟨⟨by simp,by simp,by show (ByteArray.mk #[]).size<=_; decide⟩,λy hy=> ?_,λw hw=>(by cases hw)⟩
  rw [qh] at hy; subst hy; exact (zgH hb).1
 | abs b hb _ _=>
  refine ⟨⟨by simp,by simp,by show (ByteArray.mk #[]).size<=_; decide⟩,λy hy=> ?_,λw hw=>(by cases hw)⟩
  rw [qh] at hy; subst hy; exact (zgH hb).1
 | tst f l o b hl hv hs hf=>
  obtain ⟨_,hb,hit⟩:=zAk hf;simp only at hi;exact ⟨⟨by simp,by simp only; omega,by have:=zzN hb; simp only; omega⟩,λa ha=>(by cases ha),λw hw=>⟨by have:=zzN (hit w hw).1; omega,(zgH (hv w hw).1).1⟩⟩
theorem GT.fine {t:Term} (h:GT t):zjn (zK 9) t.Fs:=⟨by have:=h.2.1; omega,λf hf=>z4i (h.2.2 f hf).1.1 (h.2.2 f hf).1.2.2⟩
theorem GF.gF {f:Fc} (h:GF f):gF (zcX 9) f:=⟨h.1.1,h.1.2.1,by constructor <;>(have:=h.2; omega)⟩
theorem GT.inj {s t:Term} (hs:GT s) (ht:GT t) (h:bs (txL s.Fs)=bs (txL t.Fs)):s.Fs=t.Fs:=
 z9m (λf hf=>(hs.2.2 f hf).gF) (λf hf=>(ht.2.2 f hf).gF) (zbao h)
mutual
theorem z3l:∀ x:At,zj5 x<=zqg x
 | ⟨_,_,a,_,i,_,_⟩=>by
  rw [zj5,zqg];have h1:=zVE a;have h2:=zTu i;omega
theorem zLN:∀ l:yC,zbS l<=zbR l
 | []=>by rw [zbS,zbR]; exact Nat.le_refl _
 | ⟨x,_⟩::r=>by
  rw [zbS,zbR];have h1:=z3l x;have h2:=zLN r;omega
theorem zFV:∀ l:yB,zW l<=zbq l
 | []=>by rw [zW,zbq]; exact Nat.le_refl _
 | ⟨_,fs⟩::r=>by
  rw [zW,zbq];have h1:=zLN fs;have h2:=zFV r;omega
theorem zVE:∀ l:yA,zes l<=zeS l
 | []=>by rw [zes,zeS]; exact Nat.le_refl _
 | a::r=>by
  rw [zes,zeS];have h1:=zFV a;have h2:=zVE r;omega
theorem zTu:∀ l:yD,zdb l<=l.length+zcN l
 | []=>by rw [zdb,zcN]; exact Nat.zero_le _
 | ⟨_,a⟩::r=>by
  rw [zdb,zcN];have h1:=zFV a;have h2:=zTu r;simp only [qf];omega
end
theorem z6I (d:Nat):zK (d+1) []:=⟨by simp,λt ht=>by cases ht⟩
theorem zMj {B:Nat}:∀ l:yC,(∀ f∈l,zj5 f.At<=B)->zbS l<=l.length*B
 | [],_=>by rw [zsB]; simp
 | f::r,h=>by
  have h1:=h f (by simp)
  have h2:=zMj r λg hg=>h g (by simp [hg])
  rw [zd4,qf,Nat.add_mul]; omega
theorem zW8 {B:Nat}:∀ l:yB,(∀ t∈l,1+t.Fs.length+zbS t.Fs<=B)->zW l<=l.length*B
 | [],_=>by rw [zGn]; simp
 | f::r,h=>by
  have h1:=h f (by simp)
  have h2:=zW8 r λg hg=>h g (by simp [hg])
  rw [zla,qf,Nat.add_mul]; omega
theorem z9P {l:yB} (hl:l.length<=1000000) (h:∀ t∈l,GT t):zK 10 l/\zW l<=4611686018427387904:=by
 refine ⟨⟨hl,λt ht=>(h t ht).fine⟩, ?_⟩
 refine Nat.le_trans (zW8 (B:=4195330000) l λt ht=> ?_) (by have:=Nat.mul_le_mul hl (Nat.le_refl 4195330000); omega)
 have hg:=h t ht;have h1:=zMj (B:=4195328) t.Fs λf hf=>z3s (hg.2.2 f hf).1.1 (hg.2.2 f hf).1.2.2
 have:=Nat.mul_le_mul hg.2.1 (Nat.le_refl 4195328);have:=hg.2.1;omega
theorem zbas {t:Term} (ht:GT t) {l:yB} (hs:Srs l) (h:∀ x∈l,GT x):∀ x∈zoH t l,GT x:=λx hx=>by
 have hc:=z4W ht.1 (λy hy=>(h y hy).1) x hx
 rcases (zT4 hs).1 hx with ⟨h1,_⟩ | ⟨h1,_⟩
 ·exact h x h1
 ·exact ⟨hc,by rw [h1]; exact ht.2⟩
theorem z2P:∀ (b a:yB),Srs a->(∀ x∈a,GT x)->(∀ x∈b,GT x)->∀ x∈ztO a b,GT x
 | [],_,_,ha,_=>ha
 | t::r,a,hs,ha,hb=>z2P r (zoH t a) (zUa hs) (zbas (hb t (by simp)) hs ha) λx hx=>hb x (by simp [hx])
theorem z6G {x y:Term} (hx:VT x) (hy:VT y):GT (zPJ x y):=by
 obtain ⟨gx,sx,lx,ex⟩:=hx;obtain ⟨gy,sy,ly,ey⟩:=hy;refine ⟨(z4l gx.1 gy.1).1,by have:=zOM x.Fs y.Fs; show (zdK x.Fs y.Fs).length<=1000; omega,λf hf=> ?_⟩
 obtain ⟨g,hg,e⟩:=ztA hf;have hb:=zOE (B:=64) (λz hz=>⟨(gx.2.2 z hz).2.1,(ex z hz).2⟩) (λz hz=>⟨(gy.2.2 z hz).2.1,(ey z hz).2⟩) hf
 have hv:(zh1 (zcX 9) g.At=true/\ziG g.At/\g.At.Items.length<=1024):=by
  rcases hg with hg | hg
  ·exact (gx.2.2 g hg).1
  ·exact (gy.2.2 g hg).1
 exact ⟨by rw [e]; exact hv,hb.1,by omega⟩
theorem z6Y {a b:yB} (ha:∀ t∈a,VT t) (hb:∀ t∈b,VT t):∀ t∈zv8 a b,GT t:=λt ht=>by
 obtain ⟨x,hx,y,hy,rfl⟩:=zZG ht;exact z6G (ha x hx) (hb y hy)
def okA (a:yB):Prop:=(zK 12 a/\zW a<=4611686018427387904)/\zhr a/\a.length<=zZ
def opR (ok:Bool) (r:yB×Int):yB×Int:=bif ok then r else ([],1)
def z7g (a b:yB):yB×Int:=opR (ze7 a&&ze7 b) (zKP (ztO a b))
def z7k (a b:yB):yB×Int:=opR (ze7 a&&ze7 b) (zKP (zF8 a b))
def z9J (a b:yB):At:=⟨1,⟨0,0⟩,[a,b],0,[],0,⟨0,0,ByteArray.mk #[]⟩⟩
def z9y (a:yB):At:=⟨2,⟨0,0⟩,[a],0,[],0,⟨0,0,ByteArray.mk #[]⟩⟩
def z9U (a:yB):At:=⟨3,⟨0,0⟩,[a],0,[],0,⟨0,0,ByteArray.mk #[]⟩⟩
def z7O (a b:yB):yB×Int:=opR (ze7 a&&ze7 b) (if b=[] then (a,0) else if a=[]\/a=b then ([],0) else zKP (ziD (z9J a b)))
def z7q (a:yB):yB×Int:=opR (ze7 a) (if a=[]\/isU a=true then (a,0) else if isC a=true then ([⟨1,[]⟩],0) else zKP (ziD (z9y a)))
def z7u (a:yB):yB×Int:=opR (ze7 a) (if a=[] then ([⟨1,[]⟩],0) else if zVX a=true then ([],0) else zKP (ziD (z9U a)))
theorem z6S {l:yA} {k:Int} (hl:l.length<=2) (h:∀ a∈l,ze7 a=true):zK 10 (ziD ⟨k,⟨0,0⟩,l,0,[],0,⟨0,0,ByteArray.mk #[]⟩⟩)/\zW (ziD ⟨k,⟨0,0⟩,l,0,[],0,⟨0,0,ByteArray.mk #[]⟩⟩)<=4611686018427387904:=by
 constructor
 ·exact zSc ⟨⟨by simp only; omega,by simp,by show (ByteArray.mk #[]).size<=_; decide⟩,λa ha=>(zgH (h a ha)).1,λw hw=>(by cases hw)⟩
 ·rw [z2j,zli]
  have hb:∀ l:yA,(∀ a∈l,ze7 a=true)->zes l<=l.length*4096:=λl=>by
   induction l with
   | nil=>intro _; rw [zoa]; simp
   | cons a r ih=>
    intro h;have h1:=(zgH (h a (by simp))).2.1
    have h2:=ih λb hb=>h b (by simp [hb])
    rw [zgV,qf,Nat.add_mul]; omega
  have:=hb l h;show 2+(zes l+zdb [])<=_;rw [zlX];have:=Nat.mul_le_mul hl (Nat.le_refl 4096);omega
end Go.Proofs.YtoknknbmfmddbaaGreatDoor
/- The variables of an annotation: by the program and by the reference. -/
set_option maxRecDepth 100000
namespace Go.Proofs.YtoknknbmfmddbaaGreatDoor
open Go Go.Ab
theorem z2m (L M:yE):(nI M).foldl (λo x=>zoS cI x o) (nI L)=nI (L++M):=by
 have h:=zGh zik (nI M) (nI L) (zDa zik L);refine zN4 zik h.1 λz=> ?_
 rw [h.2 z,zwh zik,zwh zik,List.mem_append]
theorem z94 (L:yE) (x:RowID):zoS cI x (nI L)=nI (L++[x]):=by
 refine zN4 zik (zWd zik x (zDa zik L)) λz=> ?_
 rw [zN7 zik,zwh zik,List.mem_append,qh];exact Or.comm
theorem zDh (L:yE):(nI L).length<=L.length:=z2M zik L
theorem z9s:nI []=[]:=rfl
def vars (a:yB):yE:=nI (zfE a)
theorem z8w {d:Nat} {a:yB} (h:zK d a) (hd:d<=1000) (ht:zbq a<=300000):zjw a=(true,vars a):=by
 have hl:=zlH a;unfold zjw zye;have e1:=z7H h hd [] (by simp only [List.length_nil]; omega)
 rw [List.nil_append] at e1;have e2:=zB8 (zfE a) (by omega)
 simp only [Wy.fin_bn,e1,e2,cond_true]; rfl
section
variable (g:yB->Bool×yE)
def rvG (b:yB):Prop:=g b=(true,vars b)
variable (a:yB) (i k:Int)
theorem z73 (x:At) (L:yE) (hg:∀ b∈x.Ag,rvG g b) (hA:x.Ag.length<=1000000) (ho:L.length+zeS x.Ag<=300000) (n:Nat) (hn:x.Ag.length<n):
  zsf g n a (nI L) i k 0 x=(true,(a,nI (L++zrb x.Ag),i,k,x)):=by
 have hh:=zED (W:=zr5 g) (z:=default) x.Ag (λj L=>(a,nI L,i,k,(),(j:Int),())) (λ_ _=>(x,())) (λL b=>L++zfE b) (λL=>(a,nI L,i,k,x)) (λj L=>L.length+zeS (x.Ag.drop j)<=300000)
  (λj L hj hI=>by
   rw [z6 hj,zeS] at hI;have e:g (x.Ag.getD j default)=_:=hg _ (zT hj);have hv:=zlH (x.Ag.getD j default);have l1:=zDh L;have l2:(vars (x.Ag.getD j default)).length<=_:=zDh _;have er:=zV6 (nI L) (vars (x.Ag.getD j default)) (by omega) (by omega)
   have ei:(vars (x.Ag.getD j default)).foldl (λo x=>zoS cI x o) (nI L)=nI (L++zfE (x.Ag.getD j default)):=z2m _ _
   rw [ei] at er;refine ⟨by rw [qg]; omega,λH K D=> ?_⟩
   show (ziU g a (nI L) i k j x).ev H K D=_;unfold ziU;simp only [Wy.ev_i,Wy.ev_k,Wy.ev_h,Wy.ev_bn,Wy.ev_d,tT,hj,e,er,cond_true,At.eta,zbe (show j<4611686018427387904 by omega)])
  (λL hI H K D=>by
   show (ziU g a (nI L) i k x.Ag.length x).ev H K D=_;unfold ziU;simp only [Wy.ev_i,Wy.ev_k,tT,Nat.lt_irrefl,At.eta]) n L hn (by simpa using ho)
 rw [zOU] at hh;exact hh
theorem z7U (x:At) (L:yE) (hg:∀ w∈x.Items,rvG g w.Ann) (hA:x.Items.length<=1000000) (ho:L.length+zcN x.Items<=300000) (n:Nat) (hn:x.Items.length<n):
  zso g n a (nI L) i k 0 x=(true,(a,nI (L++zr7 x.Items),i,k)):=by
 have hh:=zED (W:=zr9 g) (z:=default) x.Items (λj L=>(a,nI L,i,k,(),(j:Int),())) (λ_ _=>(x,())) (λL w=>L++zfE w.Ann) (λL=>(a,nI L,i,k)) (λj L=>L.length+zcN (x.Items.drop j)<=300000)
  (λj L hj hI=>by
   have et:zcN (x.Items.drop j)=(x.Items.getD j default).Value.Text.size+zbq (x.Items.getD j default).Ann+zcN (x.Items.drop (j+1)):=by rw [z6 hj,zcN]
   have e:g (x.Items.getD j default).Ann=_:=hg _ (zT hj);have hv:=zlH (x.Items.getD j default).Ann;have l1:=zDh L;have l2:(vars (x.Items.getD j default).Ann).length<=_:=zDh _;have er:=zV6 (nI L) (vars (x.Items.getD j default).Ann) (by omega) (by omega)
   have ei:(vars (x.Items.getD j default).Ann).foldl (λo x=>zoS cI x o) (nI L)=nI (L++zfE (x.Items.getD j default).Ann):=z2m _ _
   rw [ei] at er;refine ⟨by rw [qg]; omega,λH K D=> ?_⟩
   show (ziM g a (nI L) i k j x).ev H K D=_;unfold ziM;simp only [Wy.ev_i,Wy.ev_k,Wy.ev_h,Wy.ev_bn,Wy.ev_d,tT,hj,e,er,cond_true,At.eta,zbe (show j<4611686018427387904 by omega)])
  (λL hI H K D=>by
   show (ziM g a (nI L) i k x.Items.length x).ev H K D=_;unfold ziM;simp only [Wy.ev_i,Wy.ev_k,tT,Nat.lt_irrefl,At.eta]) n L hn (by simpa using ho)
 rw [zLv] at hh;exact hh
def rvX (x:At):Prop:=(x.Ag.length<=1000000/\x.Items.length<=1000000)/\(∀ b∈x.Ag,rvG g b)/\∀ w∈x.Items,rvG g w.Ann
theorem zbbq (i:Nat) (hi:i<a.length) (L:yE) (hg:∀ f∈(a.getD i default).Fs,rvX g f.At) (hl:(a.getD i default).Fs.length<=1000000) (ho:L.length+(a.getD i default).Fs.length+zbR (a.getD i default).Fs<=300000) (n:Nat) (hn:(a.getD i default).Fs.length<n):
  zAf g n a (nI L) i 0=(true,(a,nI (L++ziT (a.getD i default).Fs),(i:Int))):=by
 have hh:=zED (W:=zte g) (z:=default) (a.getD i default).Fs (λk L=>(a,nI L,(i:Int),(k:Int),())) (λ_ _=>()) (λL x=>L++zD0 x.At) (λL=>(a,nI L,(i:Int))) (λk L=>L.length+((a.getD i default).Fs.length - k)+zbR ((a.getD i default).Fs.drop k)<=300000)
  (λk L hk hI=>by
   obtain ⟨⟨hA,hB⟩,h1,h2⟩:=hg _ (zT hk);have et:zbR ((a.getD i default).Fs.drop k)=zqg ((a.getD i default).Fs.getD k default).At+zbR ((a.getD i default).Fs.drop (k+1)):=by rw [z6 hk,zbR]
   have ea:=zA7 ((a.getD i default).Fs.getD k default).At;have hlen:=zPm ((a.getD i default).Fs.getD k default).At;have hv:=zF0 ((a.getD i default).Fs.getD k default).At.Ag;have l1:=zDh L;refine ⟨by rw [qg]; omega,λH K D=> ?_⟩
   show (zjV g a (nI L) i k).ev H K D=_;unfold zjV;by_cases hK:((a.getD i default).Fs.getD k default).At.Kind=0
   ·have ek:(((a.getD i default).Fs.getD k default).At.Kind==(0:Int))=true:=by rw [hK]; rfl
    have ep:=zYl (nI L) ((a.getD i default).Fs.getD k default).At.Row (by omega)
    rw [z94] at ep;have e12:=λn hn=>z73 g a (i:Int) (k:Int) ((a.getD i default).Fs.getD k default).At (L++[((a.getD i default).Fs.getD k default).At.Row]) h1 hA (by rw [qg,List.length_singleton]; omega) n hn
    have e16:=λn hn=>z7U g a (i:Int) (k:Int) ((a.getD i default).Fs.getD k default).At ((L++[((a.getD i default).Fs.getD k default).At.Row])++zrb ((a.getD i default).Fs.getD k default).At.Ag) h2 hB (by rw [qg,qg,List.length_singleton]; omega) n hn
    simp only [Wy.ev_i,Wy.ev_k,Wy.ev_h,Wy.ev_bn,Wy.ev_d,tT,hi,hk,ek,ep,cond_true,At.eta];rw [e12 _ (by omega)]
    simp only [cond_true,At.eta,Int.toNat_natCast];rw [e16 _ (by omega)]
    simp only [cond_true,zbe (show k<4611686018427387904 by omega),zSM,if_pos hK,List.append_assoc]
   ·have ek:(((a.getD i default).Fs.getD k default).At.Kind==(0:Int))=false:=beq_false_of_ne hK;have e12:=λn hn=>z73 g a (i:Int) (k:Int) ((a.getD i default).Fs.getD k default).At L h1 hA (by omega) n hn
    have e16:=λn hn=>z7U g a (i:Int) (k:Int) ((a.getD i default).Fs.getD k default).At (L++zrb ((a.getD i default).Fs.getD k default).At.Ag) h2 hB (by rw [qg]; omega) n hn
    simp only [Wy.ev_i,Wy.ev_k,Wy.ev_h,Wy.ev_bn,Wy.ev_d,tT,hi,hk,ek,cond_true,cond_false,At.eta];rw [e12 _ (by omega)]
    simp only [cond_true,At.eta,Int.toNat_natCast];rw [e16 _ (by omega)]
    simp only [cond_true,zbe (show k<4611686018427387904 by omega),zSM,if_neg hK,List.append_assoc,List.nil_append])
  (λL hI H K D=>by
   show (zjV g a (nI L) i (a.getD i default).Fs.length).ev H K D=_;unfold zjV;simp only [Wy.ev_i,Wy.ev_k,tT,hi,Nat.lt_irrefl]) n L hn (by simpa using ho)
 rw [zFe] at hh;exact hh
theorem zbbv (L:yE) (hg:∀ t∈a,t.Fs.length<=1000000/\∀ f∈t.Fs,rvX g f.At) (hl:a.length<=1000000) (ho:L.length+zbq a<=300000) (n:Nat) (hn:a.length<n):
  zAX g n a (nI L) 0=(true,nI (L++zfE a)):=by
 have hh:=zED (W:=ztd g) (z:=default) a (λi L=>(a,nI L,(i:Int),())) (λ_ _=>()) (λL t=>L++ziT t.Fs) (λL=>nI L) (λi L=>L.length+zbq (a.drop i)<=300000)
  (λi L hi hI=>by
   obtain ⟨hF,hx⟩:=hg _ (zT hi);have et:zbq (a.drop i)=1+(a.getD i default).Fs.length+zbR (a.getD i default).Fs+zbq (a.drop (i+1)):=by rw [z6 hi,zbq]
   have hlen:=zyw (a.getD i default).Fs;have sz:=zPj a i hi;have e6:=λn hn=>zbbq g a i hi L hx hF (by omega) n hn
   refine ⟨by rw [qg]; omega,λH K D=> ?_⟩
   show (zjX g a (nI L) i).ev H K D=_;unfold zjX;simp only [Wy.ev_i,Wy.ev_k,Wy.ev_h,Wy.ev_bn,Wy.ev_d,tT,hi];rw [e6 _ (by omega)]
   simp only [cond_true,zbe (show i<4611686018427387904 by omega)])
  (λL hI H K D=>by
   show (zjX g a (nI L) a.length).ev H K D=_;unfold zjX;simp only [Wy.ev_i,Wy.ev_k,tT,Nat.lt_irrefl]) n L hn (by simpa using ho)
 rw [zKU] at hh;exact hh
theorem zbbb (hg:∀ t∈a,t.Fs.length<=1000000/\∀ f∈t.Fs,rvX g f.At) (hl:a.length<=1000000) (ht:zbq a<=300000):rvG (znt g) a:=by
 have h3:=λn hn=>zbbv g a [] hg hl (by simpa using ht) n hn
 rw [z9s,List.nil_append] at h3;unfold rvG znt zBW;rw [Wy.fin_bn,h3 _ (by omega)]; rfl
end
theorem z1C:∀ {a:yB} {t:Term},t∈a->1+t.Fs.length+zbR t.Fs<=zbq a
 | [],t,h=>by cases h
 | ⟨c,fs⟩::r,t,h=>by
  rw [zbq];rcases qd.1 h with rfl | h
  ·exact Nat.le_add_right _ _
  ·have:=z1C h; omega
theorem zXK:∀ {l:yC} {f:Fc},f∈l->zqg f.At<=zbR l
 | [],f,h=>by cases h
 | ⟨x,e⟩::r,f,h=>by
  rw [zbR];rcases qd.1 h with rfl | h
  ·exact Nat.le_add_right _ _
  ·have:=zXK h; omega
theorem z1y:∀ {l:yA} {b:yB},b∈l->zbq b<=zeS l
 | [],b,h=>by cases h
 | a::r,b,h=>by
  rw [zeS];rcases qd.1 h with rfl | h
  ·exact Nat.le_add_right _ _
  ·have:=z1y h; omega
theorem zZ8:∀ {l:yD} {w:Wd},w∈l->zbq w.Ann<=zcN l
 | [],w,h=>by cases h
 | ⟨v,a⟩::r,w,h=>by
  rw [zcN];rcases qd.1 h with rfl | h
  ·show zbq a<=_; omega
  ·have:=zZ8 h; omega
theorem z6M:∀ (d n:Nat) (a:yB),d<=n->zK d a->zbq a<=300000->rvG (znn n) a
 | 0,n,a,h,hf,_=>hf.elim
 | d+1,n,a,h,hf,ht=>by
  obtain ⟨m,rfl⟩:∃ m,n=m+1:=⟨n - 1,by omega⟩
  rw [zPc];refine zbbb _ a (λt hm=>⟨(hf.2 t hm).1,λf hf'=> ?_⟩) hf.1 ht
  have hx:=(hf.2 t hm).2 f hf';have t1:=z1C hm;have t2:=zXK hf';have t3:=zA7 f.At;exact ⟨⟨hx.1.1,hx.1.2.1⟩,λb hb=>z6M d m b (by omega) (hx.2.1 b hb) (by have:=z1y hb; omega),λw hw=>z6M d m w.Ann (by omega) (hx.2.2 w hw).2 (by have:=zZ8 hw; omega)⟩
theorem z7w {d:Nat} {a:yB} (h:zK d a) (hd:d<=1000) (ht:zbq a<=300000):zBd a=(true,vars a):=z6M d 1000 a hd h ht
end Go.Proofs.YtoknknbmfmddbaaGreatDoor
namespace Go.Proofs.YtoknknbmfmddbaaGreatDoor
open Go Go.Ab
section
variable {τ:Type} [Inhabited τ]
end
structure CW (U:Row->Prop):Prop where
 ends : ∀ x y, U x -> U y -> ∃ z, zdp x y = (true, z)
def ltW (x y:Row):Prop:=(zdp x y).2<0
theorem CW.eq {U:Row->Prop} (h:CW U) {x y:Row} (hx:U x) (hy:U y):zdp x y=(true,(zdp x y).2):=by
 obtain ⟨z,e⟩:=h.ends x y hx hy;rw [e]
structure OW (U:Row->Prop):Prop extends CW U where
 asym:∀ x y,U x->U y->ltW x y->¬ ltW y x
 ntr:∀ x y z,U x->U y->U z->¬ ltW x y->¬ ltW y z->¬ ltW x z
def clW (v y:Row):Bool:=decide (¬ (zdp v y).2<0)&&decide (¬ (zdp y v).2<0)
theorem z3D {v y:Row}:clW v y=true↔¬ ltW v y/\¬ ltW y v:=by unfold clW ltW; simp
structure PS (U:Row->Prop) (Z L:yG):Prop where
 perm:Z.Perm L
 stab:∀ v,U v->Z.filter (clW v)=L.filter (clW v)
theorem PS.refl {U:Row->Prop} (L:yG):PS U L L:=⟨.refl _,λ_ _=>rfl⟩
theorem PS.trans {U:Row->Prop} {A B C:yG} (h:PS U A B) (k:PS U B C):PS U A C:=⟨h.perm.trans k.perm,λv hv=>(h.stab v hv).trans (k.stab v hv)⟩
theorem PS.append {U:Row->Prop} {A B C D:yG} (h:PS U A B) (k:PS U C D):PS U (A++C) (B++D):=⟨h.perm.append k.perm,λv hv=>by rw [List.filter_append,List.filter_append,h.stab v hv,k.stab v hv]⟩
theorem PS.swap {U:Row->Prop} (h:OW U) {A B:yG} (hA:∀ y∈A,U y) (hB:∀ y∈B,U y) (hl:∀ a∈A,∀ b∈B,ltW a b\/ltW b a):PS U (A++B) (B++A):=⟨List.perm_append_comm,λv hv=>by
 rw [List.filter_append,List.filter_append];cases ea:A.filter (clW v) with
 | nil=>simp
 | cons a A'=>
  cases eb:B.filter (clW v) with
  | nil=>simp
  | cons b B'=>
   exfalso;obtain ⟨a1,a2⟩:=List.mem_filter.1 (show a∈A.filter (clW v) by rw [ea]; simp)
   obtain ⟨b1,b2⟩:=List.mem_filter.1 (show b∈B.filter (clW v) by rw [eb]; simp)
   obtain ⟨a3,a4⟩:=z3D.1 a2;obtain ⟨b3,b4⟩:=z3D.1 b2;rcases hl a a1 b b1 with h1 | h1
   ·exact h.ntr a v b (hA a a1) hv (hB b b1) a4 b3 h1
   ·exact h.ntr b v a (hB b b1) hv (hA a a1) b4 a3 h1⟩
section
variable {U:Row->Prop} (h:OW U)
include h
end
section
variable {ρ:Type} (c:ρ->ρ->Int) (add:ρ->ρ->Option ρ)
structure MO (V:ρ->Prop):Prop where
 anti:∀ x y,V x->V y->(c x y<0↔0<c y x)
 trans:∀ x y z,V x->V y->V z->c x y<=0->c y z<=0->c x z<=0
 key:∀ x y z,V x->V y->add x y=some z->V z/\∀ w,V w->(c z w=c x w/\c w z=c w x)
variable {c add} {V:ρ->Prop} (h:MO c add V)
include h
theorem MO.zero {x y:ρ} (hx:V x) (hy:V y):c x y=0↔c y x=0:=by
 have h1:=h.anti x y hx hy;have h2:=h.anti y x hy hx;omega
end
end Go.Proofs.YtoknknbmfmddbaaGreatDoor
end
