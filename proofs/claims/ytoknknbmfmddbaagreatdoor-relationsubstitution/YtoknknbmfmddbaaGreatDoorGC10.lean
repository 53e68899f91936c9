/- Texts of this claim, joined (the program, its functions in plain words, and what they compute). -/
import Derived.Test.YtoknknbmfmddbaaGreatDoorGC9
set_option autoImplicit false
set_option linter.unusedVariables false
set_option linter.unusedSectionVars false
set_option linter.unusedSimpArgs false
set_option maxRecDepth 1000000
set_option maxHeartbeats 0
/- The operations of both sides. -/
noncomputable section
namespace Go.Proofs.YtoknknbmfmddbaaGreatDoor
open Go Go.Ab
theorem zRQ {B:Nat}:∀ l:yC,(∀ f∈l,zft f.At<=B)->zbK l<=l.length*B
 | [],_=>by rw [zi2]; simp
 | f::r,h=>by
  have h1:=h f (by simp)
  have h2:=zRQ r λg hg=>h g (by simp [hg])
  rw [zda,qc,q2s]; omega
theorem z52 {B:Nat}:∀ l:yB,(∀ t∈l,1+t.Fs.length+zbK t.Fs<=B)->zO l<=l.length*B
 | [],_=>by rw [zxf]; simp
 | f::r,h=>by
  have h1:=h f (by simp)
  have h2:=z52 r λg hg=>h g (by simp [hg])
  rw [zf7,qc,q2s]; omega
theorem zY1 {l:yB} (hl:l.length<=1000000) (h:∀ t∈l,GT t):zq 10 l/\zO l<=4611686018427387904:=by
 refine ⟨⟨hl,λt ht=>(h t ht).fine⟩, ?_⟩
 refine q18 (z52 (B:=4195330000) l λt ht=> ?_) (by have:=q1z hl (qn 4195330000); omega)
 have hg:=h t ht;have h1:=zRQ (B:=4195328) t.Fs λf hf=>z2G (hg.2.2 f hf).1.1 (hg.2.2 f hf).1.2.2
 have:=q1z hg.2.1 (qn 4195328);have:=hg.2.1;omega
theorem zbbJ {t:Term} (ht:GT t) {l:yB} (hs:Srs l) (h:∀ x∈l,GT x):∀ x∈zhr t l,GT x:=λx hx=>by
 have hc:=zbbv ht.1 (λy hy=>(h y hy).1) x hx
 rcases (zAU hs).1 hx with ⟨h1,_⟩ | ⟨h1,_⟩
 ·exact h x h1
 ·exact ⟨hc,by rw [h1]; exact ht.2⟩
theorem zIP:∀ (b a:yB),Srs a->(∀ x∈a,GT x)->(∀ x∈b,GT x)->∀ x∈zcT a b,GT x
 | [],_,_,ha,_=>ha
 | t::r,a,hs,ha,hb=>zIP r (zhr t a) (zAK hs) (zbbJ (hb t (by simp)) hs ha) λx hx=>hb x (by simp [hx])
theorem zUI {x y:Term} (hx:VT x) (hy:VT y):GT (zj9 x y):=by
 obtain ⟨gx,sx,lx,ex⟩:=hx;obtain ⟨gy,sy,ly,ey⟩:=hy;refine ⟨(zLc gx.1 gy.1).1,by have:=zNy x.Fs y.Fs; show (zbn x.Fs y.Fs).length<=1000; omega,λf hf=> ?_⟩
 obtain ⟨g,hg,e⟩:=zuF hf;have hb:=zNI (B:=64) (λz hz=>⟨(gx.2.2 z hz).2.1,(ex z hz).2⟩) (λz hz=>⟨(gy.2.2 z hz).2.1,(ey z hz).2⟩) hf
 have hv:(zdj (zbi 9) g.At=true/\zgn g.At/\g.At.Items.length<=1024):=by
  rcases hg with hg | hg
  ·exact (gx.2.2 g hg).1
  ·exact (gy.2.2 g hg).1
 exact ⟨by rw [e]; exact hv,hb.1,by omega⟩
theorem zU0 {a b:yB} (ha:∀ t∈a,VT t) (hb:∀ t∈b,VT t):∀ t∈zdC a b,GT t:=λt ht=>by
 obtain ⟨x,hx,y,hy,rfl⟩:=zIa ht;exact zUI (ha x hx) (hb y hy)
theorem zble {x y:Term} (hx:VT x) (hy:VT y):zon x.Fs y.Fs=(true,zbn x.Fs y.Fs):=by
 obtain ⟨gx,sx,lx,ex⟩:=hx;obtain ⟨gy,sy,ly,ey⟩:=hy;exact zbkL (d:=9) (by omega) _ _ (by omega) (λf hf=>⟨znp (gx.2.2 f hf).1.1 (gx.2.2 f hf).1.2.2,by have:=(gx.2.2 f hf).2; omega⟩) λf hf=>by have:=(gy.2.2 f hf).2; omega
theorem zbny (a b:yB) (i:Int) (x:Term) (hx:VT x) (hb:∀ t∈b,VT t) (hbl:b.length<=512) (terms:yB) (hl:terms.length<=1000000) (n:Nat) (hn:b.length<n):
  zKR n b a a.length i b b.length 0 terms x=(true,(b,a,(a.length:Int),i,terms++b.map (zj9 x))):=by
 have hreach:zD=70368744177664:=rfl
 have:=zcs (W:=zBK) (z:=default) b.length (λj=>(b,(),(),a,(a.length:Int),i,b,(b.length:Int),(j:Int),())) (λj=>(terms++(b.take j).map (zj9 x),x,())) (λ_=>true) default (b,a,(a.length:Int),i,terms++b.map (zj9 x))
  (λj hj H K D=>by
   show (zpu b a a.length i b b.length j (terms++(b.take j).map (zj9 x)) x).ev H K D=_;unfold zpu Wy.ix;have hy:=hb _ (zm hj);have hr:decide (((terms++(b.take j).map (zj9 x)).length+1)*32<=zD)=true:=by simp only [qb,qf,q1b,q15]; omega
   simp only [Wy.ev_i,Wy.ev_k,Wy.ev_h,Wy.ev_bn,Wy.ev_d,tT,hj,(zbcg hx.1.1 hy.1.1).1,zble hx hy,qy,hr];rw [zu (by omega),zkE hj,q2g, <- qu]
   rfl)
  (λH K D=>by
   show (zpu b a a.length i b b.length b.length (terms++(b.take b.length).map (zj9 x)) x).ev H K D=_;unfold zpu Wy.ix;simp only [Wy.ev_i,Wy.ev_k,tT,qr,q2v]) n hn
 rw [show zd5 (λ_=>true) b.length 0=true from zdU.2 λ_ _ _=>rfl] at this
 simp only [List.take_zero,List.map_nil,q1o] at this;exact this
theorem zbnS (a b:yB) (ha:∀ t∈a,VT t) (hb:∀ t∈b,VT t) (hal:a.length<=512) (hbl:b.length<=512) (n:Nat) (hn:a.length<n):
  zBI n b a a.length 0 []=(true,zdC a b):=by
 have:=zcs (W:=zBv) (z:=default) a.length (λi=>(b,(),a,(a.length:Int),(i:Int),())) (λi=>(zdC (a.take i) b,())) (λ_=>true) default (zdC a b)
  (λi hi H K D=>by
   show (zpn b a a.length i (zdC (a.take i) b)).ev H K D=_;unfold zpn Wy.ix;have hx:=ha _ (zm hi)
   have hlen:(zdC (a.take i) b).length<=1000000:=by
    rw [zPX,q15];have:=q1z (show min i a.length<=512 by omega) hbl
    omega
   simp only [Wy.ev_i,Wy.ev_k,Wy.ev_h,Wy.ev_bn,Wy.ev_d,tT,hi];rw [zbny a b i _ hx hb hbl _ hlen _ (by omega)]
   simp only [q7];rw [zu (by omega),zkE hi]
   have e:zdC (a.take i++[a.getD i default]) b=zdC (a.take i) b++b.map (zj9 (a.getD i default)):=by
    unfold zdC; rw [List.flatMap_append]; simp
   rw [e])
  (λH K D=>by
   show (zpn b a a.length a.length (zdC (a.take a.length) b)).ev H K D=_;unfold zpn Wy.ix;simp only [Wy.ev_i,Wy.ev_k,tT,qr,q2v]) n hn
 rw [show zd5 (λ_=>true) a.length 0=true from zdU.2 λ_ _ _=>rfl] at this
 exact this
theorem szTs_get' (a:yB) (i:Nat) (h:i<a.length):(a.getD i default).Fs.length<=zbP a:=zN9 a i h
theorem zbjN (a b:yB) (i:Int) (k:Nat) (hk:k<b.length) (out:yB) (c:Int) (x:Term) (hx:VT x) (hy:VT (b.getD k default)) (n:Nat) (hn:(b.getD k default).Fs.length<n):
  zKQ n a b i k 0 out c x.Fs=(true,(a,b,i,(k:Int),out,c,zbn x.Fs (b.getD k default).Fs)):=by
 obtain ⟨gx,sx,lx,ex⟩:=hx;obtain ⟨gy0,sy,ly,ey⟩:=hy;have gy:∀ f∈(b.getD k default).Fs,GF f:=gy0.2.2;have sy:Srf (b.getD k default).Fs:=sy;clear gy0;generalize hF:(b.getD k default).Fs=F at *
 have key:∀ j,j<F.length->zKy (F.getD j default) (zbn x.Fs (F.take j))=zbn x.Fs (F.take (j+1)):=λj hj=>by
  have e1:=zUh (F.take j) x.Fs (sy.sublist (List.take_sublist _ _)) (λz hz=>(ex z hz).1) λz hz=>(ey z (q30 hz)).1
  have e2:=zUh (F.take (j+1)) x.Fs (sy.sublist (List.take_sublist _ _)) (λz hz=>(ex z hz).1) λz hz=>(ey z (q30 hz)).1
  rw [<- e1, <- e2,zkE hj,List.foldl_append]; rfl
 have:=zcs (W:=zBm) (z:=default) F.length (λj=>(a,b,(),i,(k:Int),(),(j:Int),())) (λj=>(out,(c,zbn x.Fs (F.take j),()),())) (λ_=>true) default (a,b,i,(k:Int),out,c,zbn x.Fs F)
  (λj hj H K D=>by
   show (zpo a b i k j out c (zbn x.Fs (F.take j))).ev H K D=_;unfold zpo Wy.ix At.et;have hlen:=zNy x.Fs (F.take j);rw [q15] at hlen;have hex:=λz (hz:z∈zbn x.Fs (F.take j))=>zNI (B:=64) (λz hz=>⟨(gx.2.2 z hz).2.1,(ex z hz).2⟩) (λz hz=>⟨(gy z (q30 hz)).2.1,(ey z (q30 hz)).2⟩) hz
   have hfine:∀ z∈zbn x.Fs (F.take j),zdl (zq 9) z.At:=λz hz=>by
    obtain ⟨w,hw,e⟩:=zuF hz;rw [e];rcases hw with hw | hw
    ·exact znp (gx.2.2 w hw).1.1 (gx.2.2 w hw).1.2.2
    ·exact znp (gy w (q30 hw)).1.1 (gy w (q30 hw)).1.2.2
   have hm:=zm hj;have e1:decide ((k:Int)<Int.ofNat b.length)=true:=by simp [hk]
   have e2:decide ((j:Int)<Int.ofNat F.length)=true:=by simp [hj]
   have efx:(FO.mk (F.getD j default).At (F.getD j default).Exp:Fc)=F.getD j default:=rfl;simp only [At.eta,Wy.ev_i,Wy.ev_k,Wy.ev_h,Wy.ev_bn,Wy.ev_d,ze4,q13,q7,qt,hF,e1,e2,efx];rw [zbkW (d:=9) _ _ (by omega) hfine (by omega) (λz hz=>by have:=hex z hz; omega) (by have:=(gy _ hm).2; omega),q7,zu (by omega),key j hj])
  (λH K D=>by
   show (zpo a b i k F.length out c (zbn x.Fs (F.take F.length))).ev H K D=_;unfold zpo Wy.ix At.et;have e1:decide ((k:Int)<Int.ofNat b.length)=true:=by simp [hk]
   have e2:decide ((F.length:Int)<Int.ofNat F.length)=false:=by simp
   simp only [Wy.ev_i,Wy.ev_k,ze4,q13,q7,q9,qt,hF,e1,e2,q2v]) n hn
 rw [show zd5 (λ_=>true) F.length 0=true from zdU.2 λ_ _ _=>rfl] at this
 simp only [List.take_zero,zIX] at this;exact this
theorem zblL (a b:yB) (i:Nat) (hi:i<a.length) (hal:a.length<=512) (hbl:b.length<=512) (hx:VT (a.getD i default)) (hb:∀ t∈b,VT t) (out:yB) (ho:out.length<=i*512) (hs:Srs out) (hg:∀ t∈out,GT t) (n:Nat) (hn:b.length<n):
  zNZ n a b i 0 out=(true,(a,b,(i:Int),zcT out (b.map (zj9 (a.getD i default))))):=by
 have:=zcL (W:=zC9) (z:=default) (l:=b) (λk (o:yB)=>(a,b,(),(i:Int),(k:Int),())) (λ_ o=>(o,())) (λy o=>.inl (zhr (zj9 (a.getD i default) y) o)) (λo=>(a,b,(i:Int),o)) (λk o=>(o.length<=i*512+k/\Srs o)/\∀ t∈o,GT t)
  (λk o hk hI=>.inl ⟨_,rfl,⟨⟨by have:=z0B (t:=zj9 (a.getD i default) (b.getD k default)) o; omega,zAK hI.1.2⟩,zbbJ (zUI hx (hb _ (zm hk))) hI.1.2 hI.2⟩,λH K D=>by
   show (zrD a b i k o).ev H K D=_;unfold zrD Wy.ix;have hy:=hb _ (zm hk);have hsz:=szTs_get' b k hk;simp only [Wy.ev_i,Wy.ev_k,Wy.ev_h,Wy.ev_bn,Wy.ev_d,tT,hk,hi,(zbcg hx.1.1 hy.1.1).2];rw [zbjN a b i k hk o _ _ hx hy _ (by omega)]
   simp only [q7];have e:(TO.mk (zvn (a.getD i default).Cf (b.getD k default).Cf) (zbn (a.getD i default).Fs (b.getD k default).Fs):Term)=zj9 (a.getD i default) (b.getD k default):=rfl;have hg:=zUI hx hy;rw [e,zbeZ (d:=9) o _ (by omega) (λz hz=>(hI.2 z hz).fine) (by omega) (λz hz=>(hI.2 z hz).1) hg.1]
   simp only [q7];rw [zu (by omega)]⟩)
  (λo hI H K D=>by
   show (zrD a b i b.length o).ev H K D=_;unfold zrD Wy.ix;simp only [Wy.ev_i,Wy.ev_k,tT,qr]) n 0 out (by omega) (by omega) (show (out.length<=i*512+0/\Srs out)/\∀ t∈out,GT t from ⟨⟨q18 ho (Nat.le_add_right _ _),hs⟩,hg⟩)
 rw [qq,zcN] at this
 have e:∀ (l:yB) (o:yB),l.foldl (λs t=>zhr (zj9 (a.getD i default) t) s) o=zcT o (l.map (zj9 (a.getD i default))):=λl=>by
  induction l with
  | nil=>intro o; rfl
  | cons y r ih=>intro o; rw [q11,ih]; rfl
 rw [e] at this;exact this
theorem zbeC (o:yB) (b:yB) (x:Term):(zcT o (b.map (zj9 x))).length<=o.length+b.length:=by
 have:=zDq (b.map (zj9 x)) o
 rwa [q1b] at this
theorem zbdR (a b:yB) (ha:∀ t∈a,VT t) (hb:∀ t∈b,VT t) (hal:a.length<=512) (hbl:b.length<=512):zxO a b=(true,zd0 a b):=by
 unfold zxO zPd
 have:=zcL (W:=zDe) (z:=default) (l:=a) (λi (o:yB)=>(a,b,(),(i:Int),())) (λ_ o=>(o,())) (λx o=>.inl (zcT o (b.map (zj9 x)))) (λo=>o) (λi o=>(o.length<=i*512/\Srs o)/\∀ t∈o,GT t)
  (λi o hi hI=>.inl ⟨_,rfl,⟨⟨by have:=zbeC o b (a.getD i default); omega,zL5 _ _ hI.1.2⟩,zIP _ _ hI.1.2 hI.2 λt ht=>by
    obtain ⟨y,hy,rfl⟩:=q1p.1 ht;exact zUI (ha _ (zm hi)) (hb y hy)⟩,λH K D=>by
   show (zrL a b i o).ev H K D=_;unfold zrL;have e1:decide ((i:Int)<Int.ofNat a.length)=true:=by simp [hi]
   simp only [Wy.ev_i,Wy.ev_k,Wy.ev_h,Wy.ev_bn,Wy.ev_d,e1,q7];rw [zblL a b i hi hal hbl (ha _ (zm hi)) hb o hI.1.1 hI.1.2 hI.2 _ (by omega)]
   simp only [q7];rw [zu (by omega)]⟩)
  (λo hI H K D=>by
   show (zrL a b a.length o).ev H K D=_;unfold zrL;have e1:decide ((a.length:Int)<Int.ofNat a.length)=false:=by simp
   simp only [Wy.ev_i,Wy.ev_k,e1,q9]) ((a.length+b.length+Int.toNat (0:Int)+(0:Nat)+(1:Nat))+zbP a+zbP b+zbP []) 0 [] (by omega) (by omega) ⟨⟨by simp,.nil⟩,λt ht=>by cases ht⟩
 rw [qq,zcN] at this
 have e:∀ (l:yB) (o:yB),l.foldl (λs x=>zcT s (b.map (zj9 x))) o=zcT o (zdC l b):=λl=>by
  induction l with
  | nil=>intro o; rfl
  | cons y r ih=>
   intro o;rw [q11,ih];show _=(zdC (y::r) b).foldl (λa t=>zhr t a) o
   unfold zdC;rw [q1f,List.foldl_append]; rfl
 rw [e] at this;have this:zMg ((a.length+b.length+Int.toNat (0:Int)+(0:Nat)+(1:Nat))+zbP a+zbP b+zbP []) a b 0 []=(true,zd0 a b):=this;rw [Wy.fin_bn,this]; rfl
theorem zbfz (a b:yB) (ha:∀ t∈a,GT t) (hb:∀ t∈b,GT t) (hs:Srs a) (hal:a.length<=512) (hbl:b.length<=512):zIm a b=(true,zcT a b):=by
 unfold zIm z2U
 have:=zcL (W:=zNB) (z:=default) (l:=b) (λi (o:yB)=>(o,b,(i:Int),())) (λ_ o=>()) (λx o=>.inl (zhr x o)) (λo=>o) (λi o=>(o.length<=512+i/\Srs o)/\∀ t∈o,GT t)
  (λi o hi hI=>.inl ⟨_,rfl,⟨⟨by have:=z0B (t:=b.getD i default) o; omega,zAK hI.1.2⟩,zbbJ (hb _ (zm hi)) hI.1.2 hI.2⟩,λH K D=>by
   show (zAc o b i).ev H K D=_;unfold zAc Wy.ix;simp only [Wy.ev_i,Wy.ev_k,Wy.ev_h,Wy.ev_bn,Wy.ev_d,tT,hi];rw [zbeZ (d:=9) o _ (by omega) (λz hz=>(hI.2 z hz).fine) (by omega) (λz hz=>(hI.2 z hz).1) (hb _ (zm hi)).1,q7,zu (by omega)]⟩)
  (λo hI H K D=>by
   show (zAc o b b.length).ev H K D=_;unfold zAc Wy.ix;simp only [Wy.ev_i,Wy.ev_k,tT,qr]) (a.length+b.length+Int.toNat (0:Int)+(1:Nat)) 0 a (by omega) (by omega) ⟨⟨by omega,hs⟩,ha⟩
 rw [qq,zcN] at this;have this:zZN (a.length+b.length+Int.toNat (0:Int)+(1:Nat)) a b 0=(true,zcT a b):=this;rw [Wy.fin_bn,this]; rfl
def okA (a:yB):Prop:=(zq 12 a/\zO a<=4611686018427387904)/\zgz a/\a.length<=z6
def opR (ok:Bool) (r:yB×Int):yB×Int:=bif ok then r else ([],1)
def zmR (a b:yB):yB×Int:=opR (zx a&&zx b) (zkR (zcT a b))
def zvS (a b:yB):yB×Int:=opR (zx a&&zx b) (zkR (zd0 a b))
def zbdg (a b:yB):At:=⟨1,⟨0,0⟩,[a,b],0,[],0,⟨0,0,ByteArray.mk #[]⟩⟩
def zUg (a:yB):At:=⟨2,⟨0,0⟩,[a],0,[],0,⟨0,0,ByteArray.mk #[]⟩⟩
def zbb6 (a:yB):At:=⟨3,⟨0,0⟩,[a],0,[],0,⟨0,0,ByteArray.mk #[]⟩⟩
def zBt (a b:yB):yB×Int:=opR (zx a&&zx b) (if b=[] then (a,0) else if a=[]\/a=b then ([],0) else zkR (zcE (zbdg a b)))
def zBF (a:yB):yB×Int:=opR (zx a) (if a=[]\/isU a=true then (a,0) else if isC a=true then ([⟨1,[]⟩],0) else zkR (zcE (zUg a)))
def zBA (a:yB):yB×Int:=opR (zx a) (if a=[] then ([⟨1,[]⟩],0) else if zuo a=true then ([],0) else zkR (zcE (zbb6 a)))
theorem okA.valid {a:yB} (h:okA a):zci a=(true,zx a):=z9M h.1.1 (by omega) h.1.2
theorem okA.rvalid {a:yB} (h:okA a):zfk a=(true,zx a):=z5n h.1.1 (by omega) h.1.2
theorem zbhC {a b:yB} (ha:okA a) (hb:okA b):zqY a b=(true,zmR a b)/\zzV a b=(true,zmR a b):=by
 unfold zqY zMj zzV zQS zmR;simp only [Wy.fin_bn,Wy.fin_i,Wy.fin_k,ha.valid,hb.valid,ha.rvalid,hb.rvalid,q7];cases va:zx a with
 | false=>first | exact ⟨trivial,trivial⟩ | exact ⟨rfl,rfl⟩ | exact ⟨trivial,rfl⟩ | exact ⟨rfl,trivial⟩
 | true=>
  cases vb:zx b with
  | false=>first | exact ⟨trivial,trivial⟩ | exact ⟨rfl,rfl⟩ | exact ⟨trivial,rfl⟩ | exact ⟨rfl,trivial⟩
  | true=>
   obtain ⟨sa,la,ta⟩:=zo0 va ha.2.1;obtain ⟨sb,lb,tb⟩:=zo0 vb hb.2.1;have ga:∀ t∈a,GT t:=λt ht=>(ta t ht).1
   have gb:∀ t∈b,GT t:=λt ht=>(tb t ht).1
   have hc:=zbix [a,b] (by simp) (λl hl=>by
    simp only [q8,q16,or_false] at hl;rcases hl with rfl | rfl <;>omega)
   have e:[a,b].flatten=a++b:=by simp
   have hcol:=z4T (a++b) (by simp; omega) λt ht=>by
    rcases q12.1 ht with ht | ht
    ·exact ga t ht
    ·exact gb t ht
   rw [e] at hc;rw [zbkt a b sa] at hcol;have hsl:(zcT a b).length<=1000000:=by have:=zDq b a; omega
   obtain ⟨f1,f2⟩:=zY1 hsl (zIP b a sa ga gb);simp only [qk,q9,q13,hc,hcol,zAv f1 (by omega:10<=100) f2,zbfz a b ga gb sa la lb,zAj f1 (by omega:10<=100) f2,q7]
   first | exact ⟨trivial,trivial⟩ | exact ⟨rfl,rfl⟩ | exact ⟨trivial,rfl⟩ | exact ⟨rfl,trivial⟩
theorem zbmV {a b:yB} (ha:okA a) (hb:okA b):zvQ a b=(true,zvS a b)/\zz0 a b=(true,zvS a b):=by
 unfold zvQ zNx zz0 zQY zvS;simp only [Wy.fin_bn,Wy.fin_i,Wy.fin_k,ha.valid,hb.valid,ha.rvalid,hb.rvalid,q7];cases va:zx a with
 | false=>first | exact ⟨trivial,trivial⟩ | exact ⟨rfl,rfl⟩ | exact ⟨trivial,rfl⟩ | exact ⟨rfl,trivial⟩
 | true=>
  cases vb:zx b with
  | false=>first | exact ⟨trivial,trivial⟩ | exact ⟨rfl,rfl⟩ | exact ⟨trivial,rfl⟩ | exact ⟨rfl,trivial⟩
  | true=>
   obtain ⟨sa,la,ta⟩:=zo0 va ha.2.1;obtain ⟨sb,lb,tb⟩:=zo0 vb hb.2.1;have hm:=zbnS a b ta tb la lb (b.length+a.length+(Int.ofNat a.length).toNat +Int.toNat (0:Int)+(0:Nat)+(1:Nat)) (by omega)
   have hm:zBI (b.length+a.length+(Int.ofNat a.length).toNat +Int.toNat (0:Int)+(0:Nat)+(1:Nat)) b a (Int.ofNat a.length) 0 []=_:=hm;have hpl:(zdC a b).length<=1000000:=by rw [zPX]; have:=q1z la lb; omega
   have hcol:=z4T (zdC a b) hpl (zU0 ta tb);have hsl:(zd0 a b).length<=1000000:=by have:=zDq (zdC a b) []; simp at this; exact q18 this hpl
   obtain ⟨f1,f2⟩:=zY1 hsl (zIP (zdC a b) [] .nil (λt ht=>by cases ht) (zU0 ta tb))
   have f1:zq 10 (zd0 a b):=f1;have f2:zO (zd0 a b)<=4611686018427387904:=f2;have hcol:zis (zdC a b)=(true,zd0 a b):=hcol;simp only [qk,q9,q13,hm,hcol,zAv f1 (by omega:10<=100) f2,zbdR a b ta tb la lb,zAj f1 (by omega:10<=100) f2,q7]
   first | exact ⟨trivial,trivial⟩ | exact ⟨rfl,rfl⟩ | exact ⟨trivial,rfl⟩ | exact ⟨rfl,trivial⟩
theorem zDi {l:yA} {k:Int} (hl:l.length<=2) (h:∀ a∈l,zx a=true):zq 10 (zcE ⟨k,⟨0,0⟩,l,0,[],0,⟨0,0,ByteArray.mk #[]⟩⟩)/\zO (zcE ⟨k,⟨0,0⟩,l,0,[],0,⟨0,0,ByteArray.mk #[]⟩⟩)<=4611686018427387904:=by
 constructor
 ·exact zZF ⟨⟨by simp only; omega,by simp,by show (ByteArray.mk #[]).size<=_; decide⟩,λa ha=>(zeM (h a ha)).1,λw hw=>(by cases hw)⟩
 ·rw [z3f,zhM]
  have hb:∀ l:yA,(∀ a∈l,zx a=true)->zfn l<=l.length*4096:=λl=>by
   induction l with
   | nil=>intro _; rw [zg4]; simp
   | cons a r ih=>
    intro h;have h1:=(zeM (h a (by simp))).2.1
    have h2:=ih λb hb=>h b (by simp [hb])
    rw [zfc,qc,q2s]; omega
  have:=hb l h;show 2+(zfn l+zdm [])<=_;rw [zfS];have:=q1z hl (qn 4096);omega
theorem zLX (a:yB):(Int.ofNat a.length==(0:Int))=decide (a=[]):=by
 rw [show (Int.ofNat a.length==(0:Int))=(a.length==0) from ztE _ 0,z3g]
 congr 1;rw [q29]
theorem zbiI {a b:yB} (ha:okA a) (hb:okA b):zrb a b=(true,zBt a b)/\zup a b=(true,zBt a b):=by
 unfold zrb zIL zup zJZ zBt;simp only [Wy.fin_bn,Wy.fin_i,Wy.fin_k,ha.valid,hb.valid,ha.rvalid,hb.rvalid,q7];cases va:zx a with
 | false=>first | exact ⟨trivial,trivial⟩ | exact ⟨rfl,rfl⟩ | exact ⟨trivial,rfl⟩ | exact ⟨rfl,trivial⟩
 | true=>
  cases vb:zx b with
  | false=>first | exact ⟨trivial,trivial⟩ | exact ⟨rfl,rfl⟩ | exact ⟨trivial,rfl⟩ | exact ⟨rfl,trivial⟩
  | true=>
   obtain ⟨f1,f2⟩:=zDi (l:=[a,b]) (k:=1) (by simp) (λx hx=>by
    simp only [q8,q16,or_false] at hx;rcases hx with rfl | rfl
    ·exact va
    ·exact vb)
   simp only [qk,q9,q13,zLX,zIs ha.1.1 (by omega:12<=100),zyH ha.1.1 (by omega:12<=100),zCw ha.1.1 (by omega:12<=100),zIO,zD2,zAv f1 (by omega:10<=100) f2,zAj f1 (by omega:10<=100) f2,q7,opR]
   by_cases hb0:b=[]
   ·simp only [hb0,decide_true,q7,if_true]; exact ⟨trivial,trivial⟩
   ·by_cases ha0:a=[]
    ·simp only [hb0,ha0,decide_true,decide_false,q7,q9,if_true,if_false,true_or]; exact ⟨trivial,trivial⟩
    ·by_cases hab:a=b
     ·simp only [hb0,ha0,hab,decide_true,decide_false,q7,q9,if_true,if_false,or_true]; exact ⟨trivial,trivial⟩
     ·simp only [hb0,ha0,hab,decide_false,q9,if_false,or_self]; first | exact ⟨trivial,trivial⟩ | exact ⟨rfl,rfl⟩ | exact ⟨trivial,rfl⟩ | exact ⟨rfl,trivial⟩
theorem zbiZ {a:yB} (ha:okA a):zrR a=(true,zBF a)/\zuy a=(true,zBF a):=by
 unfold zrR zJd zuy zJR zBF;simp only [Wy.fin_bn,Wy.fin_i,Wy.fin_k,ha.valid,ha.rvalid,q7];cases va:zx a with
 | false=>first | exact ⟨trivial,trivial⟩ | exact ⟨rfl,rfl⟩ | exact ⟨trivial,rfl⟩ | exact ⟨rfl,trivial⟩
 | true=>
  obtain ⟨f1,f2⟩:=zDi (l:=[a]) (k:=2) (by simp) (λx hx=>by rw [qj] at hx; subst hx; exact va)
  have hla:a.length<=1000000000:=by have:=(zeM va).2.2; omega
  have hbu:isB a=isU a:=zNq va;simp only [qk,q9,zLX,zIs ha.1.1 (by omega:12<=100),z9x,zV2,zFU,zpd a hla,zIO,zD2,zAv f1 (by omega:10<=100) f2,zAj f1 (by omega:10<=100) f2,q7,opR,hbu]
  rw [show zkR (zcE ⟨2,⟨0,0⟩,[a],0,[],0,⟨0,0,ByteArray.mk #[]⟩⟩)=zkR (zcE (zUg a)) from rfl]
  clear f1 f2;generalize zkR (zcE (zUg a))=R;by_cases h0:a=[]
  ·simp only [h0,decide_true,q7,if_true,true_or]; exact ⟨trivial,trivial⟩
  ·cases hu:isU a with
   | true=>simp only [h0,decide_false,q9,q7,if_true,or_true]; exact ⟨trivial,trivial⟩
   | false=>
    simp only [h0,decide_false,q9,if_false,or_self,q1e]
    match a,h0 with
    | [t],_=>
     have e1:zuo [t]=(t.Fs.length==0):=by simp [zuo]
     have e2:isC [t]=(t.Fs.length==0):=rfl;rw [e1,e2];cases (t.Fs.length==0) with
     | true=>simp only [q7,if_true]; first | exact ⟨trivial,trivial⟩ | exact ⟨rfl,rfl⟩ | exact ⟨trivial,rfl⟩ | exact ⟨rfl,trivial⟩
     | false=>simp only [q9,q7,q1e,if_false]; first | exact ⟨trivial,trivial⟩ | exact ⟨rfl,rfl⟩ | exact ⟨trivial,rfl⟩ | exact ⟨rfl,trivial⟩
    | t::s::r,_=>
     have e2:isC (t::s::r)=false:=rfl;simp only [zNr,e2,q9,q7,q1e,if_false]
     first | exact ⟨trivial,trivial⟩ | exact ⟨rfl,rfl⟩ | exact ⟨trivial,rfl⟩ | exact ⟨rfl,trivial⟩
theorem zbia {a:yB} (ha:okA a):zpK a=(true,zBA a)/\zrS a=(true,zBA a):=by
 unfold zpK zGP zrS zGW zBA;simp only [Wy.fin_bn,Wy.fin_i,Wy.fin_k,ha.valid,ha.rvalid,q7];cases va:zx a with
 | false=>first | exact ⟨trivial,trivial⟩ | exact ⟨rfl,rfl⟩ | exact ⟨trivial,rfl⟩ | exact ⟨rfl,trivial⟩
 | true=>
  obtain ⟨f1,f2⟩:=zDi (l:=[a]) (k:=3) (by simp) (λx hx=>by rw [qj] at hx; subst hx; exact va)
  have hla:a.length<=1000000000:=by have:=(zeM va).2.2; omega
  simp only [qk,q9,zLX,zRJ a hla,zpd a hla,zIO,zD2,zAv f1 (by omega:10<=100) f2,zAj f1 (by omega:10<=100) f2,q7,opR]
  by_cases h0:a=[]
  ·simp only [h0,decide_true,q7,if_true]; first | exact ⟨trivial,trivial⟩ | exact ⟨rfl,rfl⟩ | exact ⟨trivial,rfl⟩ | exact ⟨rfl,trivial⟩
  ·cases hu:zuo a with
   | true=>simp only [h0,decide_false,q9,q7,if_true,if_false]; exact ⟨trivial,trivial⟩
   | false=>simp only [h0,decide_false,q9,if_false,q1e]; first | exact ⟨trivial,trivial⟩ | exact ⟨rfl,rfl⟩ | exact ⟨trivial,rfl⟩ | exact ⟨rfl,trivial⟩
theorem z0q {n:Int} (h:rng n):wf3 n:=by
 show (Lit.int .i64 n).wf=true;have:IntKind.i64.min<=n/\n<=IntKind.i64.max:=⟨h.1,h.2⟩
 simpa [Lit.wf] using this
theorem zXO {t:Term} (hc:rng t.Cf) (hf:∀ f∈t.Fs,zgn f.At/\rng f.Exp) (hl:t.Fs.length<=1000000):zB1 t:=by
 obtain ⟨c,fs⟩:=t;unfold zB1;refine ⟨z0q hc,zMG fs λf h=> ?_,by have:z6=140737488351232:=rfl; simp only at hl; omega⟩
 obtain ⟨x,e⟩:=f;unfold zw1;exact ⟨(hf _ h).1,z0q (hf _ h).2⟩
def okR (r:yB×Int):Prop:=okA r.1/\(r.2=0\/r.1=[])
theorem zjL:okA []:=⟨⟨zbjG 11,by rw [zxf]; omega⟩,by unfold zgz; trivial,by simp⟩
theorem zL2 {a:yB} (h:okA a):okR (zkR a):=by
 unfold zkR;cases zfN a with
 | true=>exact ⟨h,.inl rfl⟩
 | false=>exact ⟨zjL,.inr rfl⟩
theorem zSm {ok:Bool} {r:yB×Int} (h:ok=true->okR r):okR (opR ok r):=by
 unfold opR;cases ok with
 | true=>exact h rfl
 | false=>exact ⟨zjL,.inr rfl⟩
theorem z8F {l:yB} (hl:l.length<=1000000) (h:∀ t∈l,GT t):okA l:=by
 obtain ⟨h1,h2⟩:=zY1 hl h;refine ⟨⟨h1.mono (by omega),h2⟩,zHK l λt ht=> ?_,by have:z6=140737488351232:=rfl; omega⟩
 have hg:=h t ht;exact zXO ⟨by have:=hg.1.1; omega,by have:=hg.1.2; omega⟩ (λf hf=>⟨(hg.2.2 f hf).1.2.1,(hg.2.2 f hf).gF.2.2⟩) (by have:=hg.2.1; omega)
theorem z0E {a b:yB} (ha:okA a) (hb:okA b):okR (zmR a b):=zSm λhv=>by
 rw [qa] at hv;obtain ⟨sa,la,ta⟩:=zo0 hv.1 ha.2.1;obtain ⟨sb,lb,tb⟩:=zo0 hv.2 hb.2.1;exact zL2 (z8F (by have:=zDq b a; omega) (zIP b a sa (λt ht=>(ta t ht).1) λt ht=>(tb t ht).1))
theorem z8J {a b:yB} (ha:okA a) (hb:okA b):okR (zvS a b):=zSm λhv=>by
 rw [qa] at hv;obtain ⟨sa,la,ta⟩:=zo0 hv.1 ha.2.1;obtain ⟨sb,lb,tb⟩:=zo0 hv.2 hb.2.1;have hpl:(zdC a b).length<=1000000:=by rw [zPX]; have:=q1z la lb; omega
 exact zL2 (z8F (by have:=zDq (zdC a b) []; simp at this; exact q18 this hpl) (zIP (zdC a b) [] .nil (λt ht=>by cases ht) (zU0 ta tb)))
theorem zbcK {x:At} (hf:zdl (zq 9) x) (hs:zO (zcE x)<=4611686018427387904) (hw:zgn x):okA (zcE x):=by
 refine ⟨⟨(zZF hf).mono (by omega),hs⟩,zHK _ λt ht=> ?_,by simp [zcE,z6]⟩
 simp only [zcE,qj] at ht;subst ht;refine zXO ⟨by simp,by simp⟩ (λf hf=> ?_) (by simp)
 simp only [qj] at hf;subst hf;exact ⟨hw,⟨by simp,by simp⟩⟩
theorem zYQ {n:Int} (h: -1000<=n/\n<=1000):rng n:=⟨by omega,by omega⟩
theorem zqN:wf3 0:=z0q (zYQ (by omega))
theorem zZz {l:yA} {k:Int} (hk:0<=k/\k<=4) (hl:l.length<=2) (h:∀ a∈l,zx a=true) (hw:∀ a∈l,okA a):okA (zcE ⟨k,⟨0,0⟩,l,0,[],0,⟨0,0,ByteArray.mk #[]⟩⟩):=by
 refine zbcK ⟨⟨by simp only; omega,by simp,by show (ByteArray.mk #[]).size<=_; decide⟩,λa ha=>(zeM (h a ha)).1,λw hw=>(by cases hw)⟩ (zDi hl h).2 ?_
 unfold zgn;have hr:z6=140737488351232:=rfl;refine ⟨z0q (zYQ (by omega)),⟨zqN,zqN⟩,⟨zYR l λa ha=>⟨(hw a ha).2.1,(hw a ha).2.2⟩,by omega⟩,zqN,⟨by unfold zta; trivial,by simp⟩,zqN,⟨zqN,zqN, ?_⟩⟩
 show (ByteArray.mk #[]).size<=z6;rw [hr]; decide
theorem z8W {a b:yB} (ha:okA a) (hb:okA b):okR (zBt a b):=zSm λhv=>by
 rw [qa] at hv;split
 ·exact ⟨ha,.inl rfl⟩
 ·split
  ·exact ⟨zjL,.inl rfl⟩
  ·refine zL2 (zZz (by omega) (by simp) (λx hx=> ?_) λx hx=> ?_)
   ·simp only [q8,q16,or_false] at hx;rcases hx with rfl | rfl
    ·exact hv.1
    ·exact hv.2
   ·simp only [q8,q16,or_false] at hx;rcases hx with rfl | rfl
    ·exact ha
    ·exact hb
theorem z0P (c:Int) (hc:1<=c/\c<=1152921504606846976):okA [⟨c,[]⟩]:=z8F (by simp) λt ht=>by
 rw [qj] at ht; subst ht;exact ⟨hc,by simp,λf hf=>by cases hf⟩
theorem z8N {a:yB} (ha:okA a):okR (zBF a):=zSm λhv=>by
 split
 ·exact ⟨ha,.inl rfl⟩
 ·split
  ·exact ⟨z0P 1 (by omega),.inl rfl⟩
  ·exact zL2 (zZz (by omega) (by simp) (λx hx=>by rw [qj] at hx; subst hx; exact hv) λx hx=>by rw [qj] at hx; subst hx; exact ha)
theorem z8H {a:yB} (ha:okA a):okR (zBA a):=zSm λhv=>by
 split
 ·exact ⟨z0P 1 (by omega),.inl rfl⟩
 ·split
  ·exact ⟨zjL,.inl rfl⟩
  ·exact zL2 (zZz (by omega) (by simp) (λx hx=>by rw [qj] at hx; subst hx; exact hv) λx hx=>by rw [qj] at hx; subst hx; exact ha)
def zuN (n:Int):yB:=if n<1 then [] else [⟨if 1152921504606846976<n then 1152921504606846976 else n,[]⟩]
def zp0 (id:RowID):yB:=bif zw2 id then zcE ⟨0,id,[],0,[],0,⟨0,0,ByteArray.mk #[]⟩⟩ else []
theorem zbjx (n:Int):zrq n=(true,zuN n)/\zus n=(true,zuN n):=by
 unfold zrq zIF zus zKt zuN;by_cases h:n<1
 ·simp only [Wy.fin_i,Wy.fin_k,h,decide_true,q7,if_true]; exact ⟨trivial,trivial⟩
 ·simp only [Wy.fin_i,Wy.fin_k,h,decide_false,q9,if_false]; exact ⟨trivial,trivial⟩
theorem zbht (id:RowID):zvR id=(true,zp0 id)/\zDw id=(true,zp0 id):=by
 unfold zvR zMv zDw z2L zp0 zw2;simp only [Wy.fin_i,Wy.fin_bn,Wy.fin_k,zEJ,zIO,zD2,q7];unfold zw2
 have e1:decide (id.Table<1)= !decide (id.Table≥1):=by
  by_cases h:id.Table<1
  ·have:¬ id.Table≥1:=by omega
   simp only [h,this,decide_true,decide_false,q1k]
  ·have:id.Table≥1:=by omega
   simp only [h,this,decide_true,decide_false,qk]
 have e2:decide (id.Seq<1)= !decide (id.Seq≥1):=by
  by_cases h:id.Seq<1
  ·have:¬ id.Seq≥1:=by omega
   simp only [h,this,decide_true,decide_false,q1k]
  ·have:id.Seq≥1:=by omega
   simp only [h,this,decide_true,decide_false,qk]
 rw [e1,e2];cases decide (id.Table≥1) <;>cases decide (id.Seq≥1) <;>exact ⟨rfl,rfl⟩
theorem zbcu (n:Int):okA (zuN n):=by
 unfold zuN;split
 ·exact zjL
 ·refine z0P _ ?_;split <;>omega
theorem zbmE {id:RowID} (h:z4n id):okA (zp0 id):=by
 unfold zp0;cases hr:zw2 id with
 | false=>exact zjL
 | true=>
  refine zbcK ⟨⟨by simp,by simp,by show (ByteArray.mk #[]).size<=_; decide⟩,λa ha=>(by cases ha),λw hw=>(by cases hw)⟩ (by rw [z3f,zhM,zg4,zfS]; omega) ?_
  unfold zgn;refine ⟨zqN,h,⟨by unfold zxK; trivial,by simp⟩,zqN,⟨by unfold zta; trivial,by simp⟩,zqN,⟨zqN,zqN, ?_⟩⟩
  show (ByteArray.mk #[]).size<=z6;have hr:z6=140737488351232:=rfl;rw [hr]; decide
theorem zbkQ {a:yB} {n:Nat} (hn:n<=1000) (h:zq 12 a/\zeo a<=n) (hw:zbcQ a):okA a:=⟨⟨h.1,by have:=zLL a; omega⟩,hw.1,hw.2⟩
theorem z8b {α:Type} {R:α->α->Prop} (ir:∀ x,¬ R x x) (asy:∀ x y,R x y->¬ R y x):∀ (a b:List α),a.Pairwise R->b.Pairwise R->(∀ x,x∈a↔x∈b)->a=b
 | [],[],_,_,_=>rfl
 | [],y::b,_,_,h=>by have:=(h y).2 (by simp); cases this
 | x::a,[],_,_,h=>by have:=(h x).1 (by simp); cases this
 | x::a,y::b,ha,hb,h=>by
  have ca:=qh.1 ha;have cb:=qh.1 hb
  have e:x=y:=by
   rcases q8.1 ((h x).1 (by simp)) with e | hx
   ·exact e
   ·rcases q8.1 ((h y).2 (by simp)) with e | hy
    ·exact e.symm
    ·exact absurd (cb.1 x hx) (asy _ _ (ca.1 y hy))
  subst e;rw [z8b ir asy a b ca.2 cb.2 λz=>⟨λhz=> ?_,λhz=> ?_⟩]
  ·rcases q8.1 ((h z).1 (by simp [hz])) with rfl | h1
   ·exact absurd (ca.1 z hz) (ir z)
   ·exact h1
  ·rcases q8.1 ((h z).2 (by simp [hz])) with rfl | h1
   ·exact absurd (cb.1 z hz) (ir z)
   ·exact h1
def exA (x:At):yC->Int
 | []=>0
 | f::r=>(if f.At=x then f.Exp else 0)+exA x r
theorem zDk (x:At) (f:Fc) (r:yC):exA x (f::r)=(if f.At=x then f.Exp else 0)+exA x r:=rfl
def MF (l:yC):Prop:=Srf l/\∀ f∈l,eOK f/\1<=f.Exp
theorem MF.tail {f:Fc} {l:yC} (h:MF (f::l)):MF l:=⟨(qh.1 h.1).2,λg hg=>h.2 g (by simp [hg])⟩
theorem MF.nil:MF []:=⟨List.Pairwise.nil,λf hf=>by cases hf⟩
theorem z3I {x:At}:∀ {l:yC},(∀ f∈l,f.At≠x)->exA x l=0
 | [],_=>rfl
 | f::r,h=>by rw [exA,if_neg (h f (by simp)),z3I λg hg=>h g (by simp [hg])]; rfl
theorem cF_self' {x y:Fc} (h:x.At=y.At):cF x y=0:=by unfold cF; rw [h]; exact zD0 _
theorem MF.ne {f:Fc} {l:yC} (h:MF (f::l)):∀ g∈l,g.At≠f.At:=λg hg e=>by
 have:=(qh.1 h.1).1 g hg;rw [cF_self' e.symm] at this; omega
theorem z7S {f:Fc}:∀ {l:yC},MF l->f∈l->exA f.At l=f.Exp
 | [],_,h=>by cases h
 | g::r,h,hf=>by
  rw [exA];rcases q8.1 hf with rfl | hf
  ·rw [if_pos rfl,z3I h.ne]; omega
  ·rw [if_neg (λe=>h.ne f hf e.symm),z7S h.tail hf]; omega
theorem z8n {x:At}:∀ {l:yC},MF l->(0<=exA x l/\(exA x l≠0->∃ f∈l,f.At=x))
 | [],_=>⟨Int.le_refl _,λh=>absurd rfl h⟩
 | g::r,h=>by
  rw [exA];have:=z8n (x:=x) h.tail;have:=(h.2 g (by simp)).2
  by_cases e:g.At=x
  ·rw [if_pos e];exact ⟨by omega,λ_=>⟨g,by simp,e⟩⟩
  ·rw [if_neg e];refine ⟨by omega,λh1=> ?_⟩
   obtain ⟨f,hf,e⟩:=(z8n (x:=x) h.tail).2 (by omega)
   exact ⟨f,by simp [hf],e⟩
theorem zbic {x y:Fc} (h1:x.At=y.At) (h2:x.Exp=y.Exp):x=y:=by cases x; cases y; simp_all
theorem zbl0 {a b:yC} (ha:MF a) (hb:MF b) (h:∀ x,exA x a=exA x b):a=b:=by
 refine z8b (R:=λx y=>cF x y<0) (λx=>by rw [cF_self' rfl]; omega) (λx y h=>by rw [z8O x y]; omega) a b ha.1 hb.1 λf=> ?_
 have key:∀ {a b:yC},MF a->MF b->(∀ x,exA x a=exA x b)->f∈a->f∈b:=λ{a b} ha hb h hf=>by
  have e:=h f.At;rw [z7S ha hf] at e;have h1:=(ha.2 f hf).2;obtain ⟨g,hg,e2⟩:=(z8n (x:=f.At) hb).2 (by omega)
  rw [<- e2,z7S hb hg] at e;rw [zbic e2.symm e]; exact hg
 exact ⟨key ha hb h,key hb ha λx=>(h x).symm⟩
def cbE (x:At) (m n:Int):Int:=if x.Kind=3\/x.Kind=4 then (if m=0 then n else m) else m+n
theorem zbjK {a b:yC}:Srf a->Srf b->Srf (zbn a b):=by
 induction a,b using zbn.induct with
 | case1 b=>intro _ hb; rw [zbn]; exact hb
 | case2 x a=>intro ha _; rw [zbn]; exact ha
 | case3 x a y b h ih=>
  intro ha hb;have ca:=qh.1 ha;rw [zbn,if_pos h];refine qh.2 ⟨λz hz=> ?_,ih ca.2 hb⟩
  obtain ⟨w,hw,e⟩:=zuF hz;have:cF x z=cF x w:=by unfold cF; rw [e]
  rw [this];rcases hw with hw | hw
  ·exact ca.1 w hw
  ·rcases q8.1 hw with rfl | hw
   ·exact h
   ·exact zzY h ((qh.1 hb).1 w hw)
 | case4 x a y b h h2 ih=>
  intro ha hb;have cb:=qh.1 hb;rw [zbn,if_neg h,if_pos h2];have h3:cF y x<0:=by rw [z8O x y]; omega
  refine qh.2 ⟨λz hz=> ?_,ih ha cb.2⟩
  obtain ⟨w,hw,e⟩:=zuF hz;have:cF y z=cF y w:=by unfold cF; rw [e]
  rw [this];rcases hw with hw | hw
  ·rcases q8.1 hw with rfl | hw
   ·exact h3
   ·exact zzY h3 ((qh.1 ha).1 w hw)
  ·exact cb.1 w hw
 | case5 x a y b h h2 ih=>
  intro ha hb;have ca:=qh.1 ha;have cb:=qh.1 hb;have h0:x.At=y.At:=z9d (by omega)
  rw [zbn,if_neg h,if_neg h2];have hA:(if x.At.Kind=3\/x.At.Kind=4 then x else ⟨x.At,x.Exp+y.Exp⟩:Fc).At=x.At:=by split <;>rfl
  refine qh.2 ⟨λz hz=> ?_,ih ca.2 cb.2⟩
  obtain ⟨w,hw,e⟩:=zuF hz;have:cF (if x.At.Kind=3\/x.At.Kind=4 then x else ⟨x.At,x.Exp+y.Exp⟩:Fc) z=cF x w:=by unfold cF; rw [e,hA]
  rw [this];rcases hw with hw | hw
  ·exact ca.1 w hw
  ·have:cF x w=cF y w:=by unfold cF; rw [h0]
   rw [this]; exact cb.1 w hw
theorem zbjs {a b:yC}:(∀ f∈a,eOK f/\1<=f.Exp)->(∀ f∈b,eOK f/\1<=f.Exp)->∀ f∈zbn a b,eOK f/\1<=f.Exp:=by
 induction a,b using zbn.induct with
 | case1 b=>intro _ hb; rw [zbn]; exact hb
 | case2 x a=>intro ha _; rw [zbn]; exact ha
 | case3 x a y b h ih=>
  intro ha hb f hf;rw [zbn,if_pos h] at hf;rcases q8.1 hf with rfl | hf
  ·exact ha _ (by simp)
  ·exact ih (λg hg=>ha g (by simp [hg])) hb f hf
 | case4 x a y b h h2 ih=>
  intro ha hb f hf;rw [zbn,if_neg h,if_pos h2] at hf;rcases q8.1 hf with rfl | hf
  ·exact hb _ (by simp)
  ·exact ih ha (λg hg=>hb g (by simp [hg])) f hf
 | case5 x a y b h h2 ih=>
  intro ha hb f hf;rw [zbn,if_neg h,if_neg h2] at hf;rcases q8.1 hf with rfl | hf
  ·have h1:=ha x (by simp)
   have h2:=hb y (by simp)
   split
   ·exact h1
   ·rename_i hk;exact ⟨⟨h1.1.1,λh=>absurd h hk⟩,by show 1<=x.Exp+y.Exp; omega⟩
  ·exact ih (λg hg=>ha g (by simp [hg])) (λg hg=>hb g (by simp [hg])) f hf
theorem zDZ {a b:yC} (ha:MF a) (hb:MF b):MF (zbn a b):=⟨zbjK ha.1 hb.1,zbjs ha.2 hb.2⟩
theorem zbgi (x:At) (n:Int):cbE x 0 n=n:=by unfold cbE; split <;>simp
theorem cbE_0' (x:At) (n:Int):cbE x n 0=n:=by unfold cbE; split <;>simp; omega
theorem zRF {x:Fc} {l:yC} (h:∀ z∈l,cF x z<0):exA x.At l=0:=z3I λf hf e=>by
 have:=h f hf; rw [cF_self' e.symm] at this; omega
theorem z0I (x:At) {a b:yC}:MF a->MF b->exA x (zbn a b)=cbE x (exA x a) (exA x b):=by
 induction a,b using zbn.induct with
 | case1 b=>intro _ hb; rw [zbn,exA,zbgi]
 | case2 y a=>intro ha _; rw [zbn,show exA x []=0 from rfl,cbE_0']
 | case3 u a y b h ih=>
  intro ha hb;rw [zbn,if_pos h,zDk,zDk x u a,ih ha.tail hb];by_cases e:u.At=x
  ·subst e;have h1:exA u.At a=0:=zRF (qh.1 ha.1).1
   have h2:exA u.At (y::b)=0:=zRF λz hz=>by
    rcases q8.1 hz with rfl | hz
    ·exact h
    ·exact zzY h ((qh.1 hb.1).1 z hz)
   rw [h1,h2,cbE_0',cbE_0']
  ·rw [if_neg e,Int.zero_add,Int.zero_add]
 | case4 u a y b h h2 ih=>
  intro ha hb;have h3:cF y u<0:=by rw [z8O u y]; omega
  rw [zbn,if_neg h,if_pos h2,zDk,zDk x y b,ih ha hb.tail];by_cases e:y.At=x
  ·subst e;have h1:exA y.At b=0:=zRF (qh.1 hb.1).1
   have h2:exA y.At (u::a)=0:=zRF λz hz=>by
    rcases q8.1 hz with rfl | hz
    ·exact h3
    ·exact zzY h3 ((qh.1 ha.1).1 z hz)
   rw [h1,h2,zbgi,zbgi]
  ·rw [if_neg e,Int.zero_add,Int.zero_add]
 | case5 u a y b h h2 ih=>
  intro ha hb;have h0:u.At=y.At:=z9d (by omega)
  rw [zbn,if_neg h,if_neg h2,zDk,zDk x u a,zDk x y b,ih ha.tail hb.tail];have h1:=ha.2 u (by simp)
  by_cases e:u.At=x
  ·subst e;have z1:exA u.At a=0:=zRF (qh.1 ha.1).1;have z2:exA u.At b=0:=by rw [h0]; exact zRF (qh.1 hb.1).1
   rw [z1,z2,if_pos rfl,if_pos h0.symm];by_cases hk:u.At.Kind=3\/u.At.Kind=4
   ·have n0:¬ u.Exp+0=0:=by omega
    simp only [cbE,if_pos hk,if_neg n0,if_true]
   ·simp only [cbE,if_neg hk,if_true];omega
  ·have e':¬ y.At=x:=λh=>e (h0.trans h)
   have hA:(if u.At.Kind=3\/u.At.Kind=4 then u else ⟨u.At,u.Exp+y.Exp⟩:Fc).At=u.At:=by split <;>rfl
   simp only [hA,e,e',if_false,Int.zero_add]
theorem zbf7 {a b c:yC} (ha:MF a) (hb:MF b) (hc:MF c):zbn (zbn a b) c=zbn a (zbn b c):=zbl0 (zDZ (zDZ ha hb) hc) (zDZ ha (zDZ hb hc)) λx=>by
 rw [z0I x (zDZ ha hb) hc,z0I x ha hb,z0I x ha (zDZ hb hc),z0I x hb hc];unfold cbE;split
 ·by_cases h:exA x a=0 <;>simp [h]
 ·omega
def EqS (n m:Nat):Prop:=n=m\/(1152921504606846976<=n/\1152921504606846976<=m)
theorem EqS.refl (n:Nat):EqS n n:=.inl rfl
theorem EqS.symm {n m:Nat} (h:EqS n m):EqS m n:=by unfold EqS at *; omega
theorem EqS.trans {n m k:Nat} (h:EqS n m) (h':EqS m k):EqS n k:=by unfold EqS at *; omega
theorem EqS.add {n m n' m':Nat} (h:EqS n n') (h':EqS m m'):EqS (n+m) (n'+m'):=by unfold EqS at *; omega
theorem EqS.mul1 {n n':Nat} (k:Nat) (h:EqS n n'):EqS (n*k) (n'*k):=by
 rcases h with rfl | ⟨h1,h2⟩
 ·exact .refl _
 ·rcases Nat.eq_zero_or_pos k with rfl | hk
  ·exact .inl (by simp)
  ·exact .inr ⟨q18 h1 (Nat.le_mul_of_pos_right n hk),q18 h2 (Nat.le_mul_of_pos_right n' hk)⟩
theorem EqS.mul {n m n' m':Nat} (h:EqS n n') (h':EqS m m'):EqS (n*m) (n'*m'):=by
 refine (h.mul1 m).trans ?_;rw [Nat.mul_comm n' m,Nat.mul_comm n' m'];exact h'.mul1 n'
def evA (φ:yC->Nat):yB->Nat
 | []=>0
 | t::r=>t.Cf.toNat *φ t.Fs+evA φ r
theorem z6u (φ:yC->Nat):∀ a b:yB,evA φ (a++b)=evA φ a+evA φ b
 | [],b=>by simp [evA]
 | t::r,b=>by rw [qo,evA,evA,z6u φ r b]; omega
theorem zbjj {a b:Int} (ha:1<=a) (hb:1<=b):EqS (ztv a b).toNat (a.toNat +b.toNat):=by
 unfold ztv EqS;split <;>omega
theorem zbhv (φ:yC->Nat) {t:Term} (ht:cOK t):∀ {l:yB},(∀ x∈l,cOK x)->EqS (evA φ (zhr t l)) (t.Cf.toNat *φ t.Fs+evA φ l)
 | [],_=>.inl rfl
 | x::r,h=>by
  unfold zhr;by_cases h1:cT x t<0
  ·rw [if_pos h1,evA,evA];refine ((EqS.refl _).add (zbhv φ ht λy hy=>h y (by simp [hy]))).trans (.inl ?_)
   omega
  ·rw [if_neg h1];by_cases h2:cT x t=0
   ·rw [if_pos h2,evA,evA,zRr h2];show EqS ((ztv x.Cf t.Cf).toNat *φ t.Fs+evA φ r) (t.Cf.toNat *φ t.Fs+(x.Cf.toNat *φ t.Fs+evA φ r));refine ((zbjj (h x (by simp)).1 ht.1).mul1 _ |>.add (.refl _)).trans (.inl ?_)
    rw [q2s]; omega
   ·rw [if_neg h2]; exact .refl _
theorem z0a (φ:yC->Nat):∀ (b:yB) {a:yB},(∀ x∈a,cOK x)->(∀ x∈b,cOK x)->EqS (evA φ (zcT a b)) (evA φ a+evA φ b)
 | [],a,_,_=>.inl rfl
 | t::r,a,ha,hb=>by
  refine (z0a φ r (zbbv (hb t (by simp)) ha) λx hx=>hb x (by simp [hx])).trans ?_
  rw [evA];refine ((zbhv φ (hb t (by simp)) ha).add (.refl _)).trans (.inl ?_)
  omega
theorem z0h {φ ψ:yC->Nat}:∀ {a:yB},(∀ t∈a,EqS (φ t.Fs) (ψ t.Fs))->EqS (evA φ a) (evA ψ a)
 | [],_=>.refl _
 | t::r,h=>by
  rw [evA,evA];exact ((EqS.refl _).mul (h t (by simp))).add (z0h λx hx=>h x (by simp [hx]))
theorem zbbQ {φ ψ:yC->Nat}:∀ {a:yB},(∀ t∈a,φ t.Fs=ψ t.Fs)->evA φ a=evA ψ a
 | [],_=>rfl
 | t::r,h=>by rw [evA,evA,h t (by simp),zbbQ λx hx=>h x (by simp [hx])]
def prW (φ:yC->Nat) (b:yB) (m:yC):Nat:=evA (λn=>φ (zbn m n)) b
theorem zbib {a b:Int} (ha:1<=a/\a<=1152921504606846976) (hb:1<=b/\b<=1152921504606846976):EqS (zvn a b).toNat (a.toNat *b.toNat):=by
 have e:((a.toNat *b.toNat:Nat):Int)=a*b:=by rw [Int.natCast_mul,Int.toNat_of_nonneg (by omega),Int.toNat_of_nonneg (by omega)]
 have h:=zLc ha hb;unfold zvn at *;split
 ·rename_i hlt
  right
  refine ⟨by omega, ?_⟩
  have:1152921504606846976<=a*b:=by
   rw [Int.tdiv_eq_ediv_of_nonneg (by omega)] at hlt
   by_cases hc:1152921504606846976<=a*b
   ·exact hc
   ·have:=(Int.le_ediv_iff_mul_le (c:=b) (a:=a) (b:=1152921504606846976) (by omega)).2 (by omega)
    omega
  omega
 ·left
  omega
theorem zbiG (φ:yC->Nat) {a b:yB} (ha:∀ x∈a,cOK x) (hb:∀ x∈b,cOK x):EqS (evA φ (zdC a b)) (evA (prW φ b) a):=by
 induction a with
 | nil=>exact .refl _
 | cons x a ih=>
  have hx:=ha x (by simp)
  show EqS (evA φ (b.map (zj9 x)++zdC a b)) _;rw [z6u,evA];refine EqS.add ?_ (ih λy hy=>ha y (by simp [hy]))
  unfold prW;clear ih;induction b with
  | nil=>exact .inl (by simp [evA])
  | cons y b ih=>
   rw [q1q,evA,evA,Nat.mul_add, <- Nat.mul_assoc];exact ((zbib hx (hb y (by simp))).mul1 _).add (ih λz hz=>hb z (by simp [hz]))
theorem zbfq {a b:yB} (ha:∀ x∈a,cOK x) (hb:∀ x∈b,cOK x):∀ t∈zdC a b,cOK t:=λt ht=>by
 obtain ⟨x,hx,y,hy,rfl⟩:=zIa ht;exact (zLc (ha x hx) (hb y hy)).1
theorem zbid {a b:yB} (ha:∀ x∈a,cOK x) (hb:∀ x∈b,cOK x):∀ t∈zd0 a b,cOK t:=zbbF _ (λ_ h=>by cases h) (zbfq ha hb)
theorem zbdf (a b:yB):Srs (zd0 a b):=zL5 _ _ List.Pairwise.nil
theorem zRv (φ:yC->Nat) {a b:yB} (ha:∀ x∈a,cOK x) (hb:∀ x∈b,cOK x):EqS (evA φ (zd0 a b)) (evA (prW φ b) a):=by
 refine (z0a φ (zdC a b) (λ_ h=>by cases h) (zbfq ha hb)).trans ?_
 rw [evA,q1s];exact zbiG φ ha hb
def zTZ (m n:yC):Nat:=if n=m then 1 else 0
theorem zbcY {m:yC}:∀ {l:yB},(∀ t∈l,t.Fs≠m)->evA (zTZ m) l=0
 | [],_=>rfl
 | t::r,h=>by rw [evA,zbcY λx hx=>h x (by simp [hx]),zTZ,if_neg (h t (by simp)),Nat.mul_zero]
theorem z7F {t:Term}:∀ {l:yB},Srs l->t∈l->evA (zTZ t.Fs) l=t.Cf.toNat
 | [],_,h=>by cases h
 | x::r,hs,h=>by
  have hc:=qh.1 hs;rw [evA];rcases q8.1 h with rfl | h
  ·rw [zbcY λy hy e=>by
    have:=hc.1 y hy;rw [zAp e.symm] at this; omega]
   simp [zTZ]
  ·rw [z7F hc.2 h,zTZ,if_neg λe=>by
    have:=hc.1 t h;rw [zAp e] at this; omega]
   omega
theorem zbfr {m:yC}:∀ {l:yB},evA (zTZ m) l≠0->∃ t∈l,t.Fs=m
 | [],h=>absurd rfl h
 | x::r,h=>by
  by_cases e:x.Fs=m
  ·exact ⟨x,by simp,e⟩
  ·rw [evA,zTZ,if_neg e,Nat.mul_zero,q1s] at h;obtain ⟨t,ht,e⟩:=zbfr (l:=r) h;exact ⟨t,by simp [ht],e⟩
theorem zbfD {a b:yB} (ha:Srs a) (hb:Srs b) (ca:∀ t∈a,cOK t) (cb:∀ t∈b,cOK t) (h:∀ φ,EqS (evA φ a) (evA φ b)):a=b:=by
 refine z8b (R:=λx y=>cT x y<0) (λx=>by rw [zAp rfl]; omega) (λx y h=>by rw [zDO x y]; omega) a b ha hb λt=> ?_
 have key:∀ {a b:yB},Srs a->Srs b->(∀ t∈a,cOK t)->(∀ t∈b,cOK t)->(∀ φ,EqS (evA φ a) (evA φ b))->t∈a->t∈b:=λ{a b} ha hb ca cb h ht=>by
  have e:=h (zTZ t.Fs);rw [z7F ha ht] at e;have c1:=ca t ht;unfold cOK at c1;have hne:evA (zTZ t.Fs) b≠0:=by unfold EqS at e; omega
  obtain ⟨s,hs,e2⟩:=zbfr hne;rw [<- e2,z7F hb hs] at e;have c2:=cb s hs;unfold cOK at c2;have:t=s:=z7i (by unfold EqS at e; omega) e2.symm
  rw [this]; exact hs
 exact ⟨key ha hb ca cb h,key hb ha cb ca fun φ=>(h φ).symm⟩
def PA (a:yB):Prop:=Srs a/\∀ t∈a,cOK t/\MF t.Fs
theorem PA.c {a:yB} (h:PA a):∀ t∈a,cOK t:=λt ht=>(h.2 t ht).1
theorem zRn {a b:yB} (ha:PA a) (hb:PA b):PA (zcT a b):=⟨zL5 _ _ ha.1,λt ht=>⟨zbbF b ha.c hb.c t ht,by
 obtain ⟨x,hx,e⟩:=zDC b a ha.1 ht;rw [e];rcases hx with hx | hx
 ·exact (ha.2 x hx).2
 ·exact (hb.2 x hx).2⟩⟩
theorem zvy {a b:yB} (ha:PA a) (hb:PA b):PA (zd0 a b):=⟨zbdf _ _,λt ht=>⟨zbid ha.c hb.c t ht,by
 obtain ⟨x,hx,e⟩:=zDC (zdC a b) [] List.Pairwise.nil ht;rw [e];rcases hx with hx | hx
 ·cases hx
 ·obtain ⟨u,hu,v,hv,rfl⟩:=zIa hx;exact zDZ (ha.2 u hu).2 (hb.2 v hv).2⟩⟩
theorem PA.nil:PA []:=⟨List.Pairwise.nil,λt ht=>by cases ht⟩
theorem z6I {a b c:yB} (ha:PA a) (hb:PA b) (hc:PA c):zd0 (zd0 a b) c=zd0 a (zd0 b c):=by
 have pab:=zvy ha hb;have pbc:=zvy hb hc;refine zbfD (zvy pab hc).1 (zvy ha pbc).1 (zvy pab hc).c (zvy ha pbc).c fun φ=> ?_
 refine (zRv φ pab.c hc.c).trans ((zRv _ ha.c hb.c).trans (.trans ?_ (zRv φ ha.c pbc.c).symm));refine z0h λm hm=> ?_
 refine .trans ?_ (zRv (λp=>φ (zbn m.Fs p)) hb.c hc.c).symm
 refine z0h λn hn=>.inl ?_
 exact zbbQ λq hq=>by rw [zbf7 (ha.2 m hm).2 (hb.2 n hn).2 (hc.2 q hq).2]
theorem z5s {c:Int} (h:c<=1152921504606846976):zvn c 1=c:=by
 unfold zvn;rw [if_neg (by rw [Int.tdiv_one]; omega)]; omega
theorem zbim {a:yB} (ha:∀ t∈a,cOK t):zdC a [⟨1,[]⟩]=a:=by
 induction a with
 | nil=>rfl
 | cons x a ih=>
  show zj9 x ⟨1,[]⟩::zdC a [⟨1,[]⟩]=_;rw [ih λt ht=>ha t (by simp [ht])]
  congr 1;unfold zj9;rw [z5s (ha x (by simp)).2,zIX]
theorem zbd0 {a:yB} (ha:PA a):zd0 a [⟨1,[]⟩]=a:=by
 unfold zd0;rw [zbim ha.c,sum_nil ha.1]
theorem zXR:PA [⟨1,[]⟩]:=⟨by simp,λt ht=>by
 rw [qj] at ht; subst ht;exact ⟨⟨by decide,by decide⟩,MF.nil⟩⟩
theorem zMs {τ:Type} [Inhabited τ] {R:τ->τ->Prop}:∀ {l:List τ},l.Pairwise R->∀ k,0<k->k<l.length->R (l.getD (k - 1) default) (l.getD k default)
 | [],_,k,_,h=>by simp at h
 | x::r,h,0,h0,_=>by omega
 | x::r,h,1,_,h1=>(qh.1 h).1 _ (zm (by simpa using h1))
 | x::r,h,k+2,_,h1=>zMs (qh.1 h).2 (k+1) (by omega) (by simp only [qc] at h1; omega)
def OKF (vat:At->Bool) (fs:yC):Prop:=Srf fs/\∀ f∈fs,(1<=f.Exp/\(f.At.Kind=3\/f.At.Kind=4->f.Exp=1))/\vat f.At=true
theorem zbfc {vat:At->Bool} {fs:yC}:okF vat fs=true↔OKF vat fs:=by
 constructor
 ·intro h;refine ⟨zvk (R:=λx y=>cF x y<0) (λx y z h1 h2=>zzY h1 h2) _ λk hk hl=> ?_,λf hf=>zqo h hf⟩
  have:=zdU.1 h k (by omega) (by omega)
  simp only [zQ1,qa,q1w,qb] at this;rcases this.1.2 with e | e
  ·omega
  ·exact e
 ·intro h;refine zdU.2 λk _ hk=> ?_
  have hm:=h.2 _ (zm (l:=fs) (i:=k) (by omega))
  simp only [zQ1,qa,q1w,qb,q17,Bool.and_eq_false_iff];refine ⟨⟨⟨hm.1.1, ?_⟩, ?_⟩,hm.2⟩
  ·by_cases hk:(fs.getD k default).At.Kind=3\/(fs.getD k default).At.Kind=4
   ·right; rw [hm.1.2 hk]; rfl
   ·left
    rw [Bool.or_eq_false_iff];constructor
    ·simpa using λe=>hk (.inl e)
    ·simpa using λe=>hk (.inr e)
  ·by_cases h0:k=0
   ·exact .inl h0
   ·exact .inr (zMs h.1 k (by omega) (by omega))
theorem zG3 {vat:At->Bool} {a:yB}:zvm vat a=true↔zfN a=true/\Srs a/\∀ t∈a,cOK t/\OKF vat t.Fs:=by
 constructor
 ·intro h;have hall:=h;simp only [zvm,qa] at hall;refine ⟨hall.1,zvk (R:=λx y=>cT x y<0) (λx y z h1 h2=>zNo h1 h2) a λk hk hl=> ?_,λt ht=>⟨(zwm h ht).1,zbfc.1 (zwm h ht).2⟩⟩
  have:=zdU.1 hall.2 k (by omega) (by omega)
  simp only [zFL,qa,q1w,qb] at this;rcases this.1.2 with e | e
  ·omega
  ·exact e
 ·rintro ⟨h1,h2,h3⟩
  simp only [zvm,qa];refine ⟨h1,zdU.2 λk _ hk=> ?_⟩
  have hm:=h3 _ (zm (l:=a) (i:=k) (by omega))
  simp only [zFL,qa,q1w,qb];refine ⟨⟨⟨hm.1.1,hm.1.2⟩, ?_⟩,zbfc.2 hm.2⟩;by_cases h0:k=0
  ·exact .inl h0
  ·exact .inr (zMs h2 k (by omega) (by omega))
def QA (a:yB):Prop:=Srs a/\∀ t∈a,cOK t/\OKF zoX t.Fs
theorem zqC {a:yB}:zx a=true↔zfN a=true/\QA a:=by rw [z6E]; exact zG3
theorem OKF.mf {fs:yC} (h:OKF zoX fs):MF fs:=⟨h.1,λf hf=>⟨⟨zAr (h.2 f hf).2,(h.2 f hf).1.2⟩,(h.2 f hf).1.1⟩⟩
theorem QA.pa {a:yB} (h:QA a):PA a:=⟨h.1,λt ht=>⟨(h.2 t ht).1,(h.2 t ht).2.mf⟩⟩
theorem zMH {a:yB} (h:zx a=true):QA a:=(zqC.1 h).2
theorem zHb {a:yB} (h:zx a=true):PA a:=(zMH h).pa
theorem MF.okf {fs:yC} (h:MF fs) (hv:∀ f∈fs,zoX f.At=true):OKF zoX fs:=⟨h.1,λf hf=>⟨⟨(h.2 f hf).2,(h.2 f hf).1.2⟩,hv f hf⟩⟩
theorem OKF.join {a b:yC} (ha:OKF zoX a) (hb:OKF zoX b):OKF zoX (zbn a b):=(zDZ ha.mf hb.mf).okf λf hf=>by
 obtain ⟨y,hy,e⟩:=zuF hf;rw [e];rcases hy with hy | hy
 ·exact (ha.2 y hy).2
 ·exact (hb.2 y hy).2
theorem zbmk {a b:yB} (ha:QA a) (hb:QA b):QA (zcT a b):=⟨zL5 _ _ ha.1,λt ht=>⟨zbbF b ha.pa.c hb.pa.c t ht,by
 obtain ⟨x,hx,e⟩:=zDC b a ha.1 ht;rw [e];rcases hx with hx | hx
 ·exact (ha.2 x hx).2
 ·exact (hb.2 x hx).2⟩⟩
theorem zbkq {a b:yB} (ha:QA a) (hb:QA b):QA (zd0 a b):=⟨zbdf _ _,λt ht=>⟨zbid ha.pa.c hb.pa.c t ht,by
 obtain ⟨x,hx,e⟩:=zDC (zdC a b) [] List.Pairwise.nil ht;rw [e];rcases hx with hx | hx
 ·cases hx
 ·obtain ⟨u,hu,v,hv,rfl⟩:=zIa hx;exact (ha.2 u hu).2.join (hb.2 v hv).2⟩⟩
theorem QA.nil:QA []:=⟨List.Pairwise.nil,λt ht=>by cases ht⟩
theorem zbkG {x:At} (h:zoX x=true):QA (zcE x):=⟨by simp [zcE],λt ht=>by
 simp only [zcE,qj] at ht; subst ht;refine ⟨⟨by simp,by simp⟩,by simp,λf hf=> ?_⟩
 rw [qj] at hf; subst hf;exact ⟨⟨by simp,λ_=>rfl⟩,h⟩⟩
theorem zSC {a:yB} (h:(zkR a).2=0):zfN a=true/\zkR a=(a,0):=by
 unfold zkR at *;cases hw:zfN a with
 | true=>exact ⟨rfl,rfl⟩
 | false=>rw [hw] at h; simp at h
theorem z0K {ok:Bool} {r:yB×Int} (h:(opR ok r).2=0):ok=true/\opR ok r=r:=by
 cases ok with
 | true=>exact ⟨rfl,rfl⟩
 | false=>simp [opR] at h
theorem zbbR {a b:yB} (h:(zmR a b).2=0):(zx a=true/\zx b=true/\zx (zcT a b)=true)/\zmR a b=(zcT a b,0):=by
 obtain ⟨h1,h2⟩:=z0K h;rw [qa] at h1;unfold zmR at h;rw [h2] at h;obtain ⟨h3,h4⟩:=zSC h;exact ⟨⟨h1.1,h1.2,zqC.2 ⟨h3,zbmk (zMH h1.1) (zMH h1.2)⟩⟩,h2.trans h4⟩
theorem zbmO {a b:yB} (h:(zvS a b).2=0):(zx a=true/\zx b=true/\zx (zd0 a b)=true)/\zvS a b=(zd0 a b,0):=by
 obtain ⟨h1,h2⟩:=z0K h;rw [qa] at h1;unfold zvS at h;rw [h2] at h;obtain ⟨h3,h4⟩:=zSC h;exact ⟨⟨h1.1,h1.2,zqC.2 ⟨h3,zbkq (zMH h1.1) (zMH h1.2)⟩⟩,h2.trans h4⟩
theorem zL1 {a:yB} (h:zfN a=true):zkR a=(a,0):=by unfold zkR; rw [h]; rfl
theorem zblO {a b:yB} (ha:zx a=true) (hb:zx b=true) (h:zfN (zcT a b)=true):zmR a b=(zcT a b,0):=by
 unfold zmR; rw [ha,hb,zL1 h]; rfl
theorem zbfH {a b:yB} (ha:zx a=true) (hb:zx b=true) (h:zfN (zd0 a b)=true):zvS a b=(zd0 a b,0):=by
 unfold zvS; rw [ha,hb,zL1 h]; rfl
theorem zbhw:zx []=true:=zqC.2 ⟨by decide,QA.nil⟩
theorem zTN {x:At}:zoX x=true↔VA zx x:=zcZ
theorem zbgG {x:At} (h:zoX x=true) (hw:zfN (zcE x)=true):zx (zcE x)=true:=zqC.2 ⟨hw,zbkG h⟩
def sbd {α β:Type} (x:Int⊕α) (k:α->Int⊕β):Int⊕β:=match x with
 | .inl e=>.inl e
 | .inr a=>k a
theorem zEd {α β:Type} (e:Int) (k:α->Int⊕β):sbd (.inl e) k=.inl e:=rfl
theorem zb3 {α β:Type} (a:α) (k:α->Int⊕β):sbd (.inr a) k=k a:=rfl
def opS (r:yB×Int):Int⊕yB:=if r.2=0 then .inr r.1 else .inl r.2
def ofS:Int⊕yB->yB×Int
 | .inl e=>([],e)
 | .inr a=>(a,0)
theorem zDL {r:yB×Int} (h:r.2=0\/r.1=[]):ofS (opS r)=r:=by
 obtain ⟨a,e⟩:=r;simp only at h;unfold opS;by_cases he:e=0
 ·subst he; simp [ofS]
 ·rw [if_neg he];rcases h with h | h
  ·exact absurd h he
  ·subst h; rfl
theorem zbcT {a:yB}:opS (a,0)=.inr a:=rfl
def zw6 (b:yB):Nat->yB->Int⊕yB
 | 0,p=>.inr p
 | n+1,p=>sbd (opS (zvS p b)) (zw6 b n)
mutual
def zdy (to:RowID->yB):At->Int⊕yB
 | ⟨k,r,a,f,i,o,b⟩=>if k=0 then .inr (to r) else
  sbd (zjm to a) λxs=>if k=1 then opS (zBt (xs.getD 0 default) (xs.getD 1 default)) else if k=2 then opS (zBF (xs.getD 0 default)) else if k=3 then opS (zBA (xs.getD 0 default)) else
   sbd (zfw to i) λis=>opS (zr5 f is o b)
def zc7 (to:RowID->yB):yC->yB->Int⊕yB
 | [],p=>.inr p
 | ⟨x,e⟩::r,p=>sbd (zdy to x) λb=>sbd (zw6 b e.toNat p) λq=>zc7 to r q
def zb0 (to:RowID->yB):yB->yB->Int⊕yB
 | [],s=>.inr s
 | ⟨c,fs⟩::r,s=>sbd (zc7 to fs (zuN c)) λp=>sbd (opS (zmR s p)) λq=>zb0 to r q
def zjm (to:RowID->yB):yA->Int⊕yA
 | []=>.inr []
 | a::r=>sbd (zb0 to a []) λb=>sbd (zjm to r) λl=>.inr (b::l)
def zfw (to:RowID->yB):yD->Int⊕yD
 | []=>.inr []
 | ⟨v,a⟩::r=>sbd (zb0 to a []) λb=>sbd (zfw to r) λl=>.inr (⟨v,b⟩::l)
end
variable (to:RowID->yB)
theorem zCp (p:yB):zc7 to [] p=.inr p:=by rw [zc7]
theorem zAz (f:Fc) (r:yC) (p:yB):zc7 to (f::r) p=sbd (zdy to f.At) λb=>sbd (zw6 b f.Exp.toNat p) λq=>zc7 to r q:=by cases f; rw [zc7]
theorem zPA (s:yB):zb0 to [] s=.inr s:=by rw [zb0]
theorem zLx (t:Term) (r s:yB):zb0 to (t::r) s=sbd (zc7 to t.Fs (zuN t.Cf)) λp=>sbd (opS (zmR s p)) λq=>zb0 to r q:=by cases t; rw [zb0]
theorem zpU:zjm to []=.inr []:=by rw [zjm]
theorem zk6 (a:yB) (r:yA):zjm to (a::r)=sbd (zb0 to a []) λb=>sbd (zjm to r) λl=>.inr (b::l):=by rw [zjm]
theorem zCk:zfw to []=.inr []:=by rw [zfw]
theorem zFD (w:Wd) (r:yD):zfw to (w::r)=sbd (zb0 to w.Ann []) λb=>sbd (zfw to r) λl=>.inr (⟨w.Value,b⟩::l):=by cases w; rw [zfw]
theorem zPg (x:At):zdy to x=if x.Kind=0 then .inr (to x.Row) else
  sbd (zjm to x.Ag) λxs=>if x.Kind=1 then opS (zBt (xs.getD 0 default) (xs.getD 1 default)) else if x.Kind=2 then opS (zBF (xs.getD 0 default)) else if x.Kind=3 then opS (zBA (xs.getD 0 default)) else
   sbd (zfw to x.Items) λis=>opS (zr5 x.Func is x.Op x.Bd):=by cases x; rw [zdy]
def GE {α:Type} (P:α->Prop):Int⊕α->Prop
 | .inl e=>e≠0
 | .inr a=>P a
abbrev GS:Int⊕yB->Prop:=GE okA
theorem zPC {r:yB×Int} (h:okR r):GS (opS r):=by
 unfold opS;by_cases he:r.2=0
 ·rw [if_pos he]; exact h.1
 ·rw [if_neg he]; exact he
theorem zPm {α β:Type} {P:α->Prop} {Q:β->Prop} {x:Int⊕α} {k:α->Int⊕β} (hx:GE P x) (hk:∀ a,P a->GE Q (k a)):GE Q (sbd x k):=by
 cases x with
 | inl e=>exact hx
 | inr a=>exact hk a hx
theorem z5R {b:yB} (hb:okA b):∀ (n:Nat) (p:yB),okA p->GS (zw6 b n p)
 | 0,p,hp=>hp
 | n+1,p,hp=>zPm (zPC (z8J hp hb)) λq hq=>z5R hb n q hq
abbrev GL (n:Nat):Int⊕yA->Prop:=GE λl=>l.length=n/\∀ a∈l,okA a
abbrev GI (i:yD):Int⊕yD->Prop:=GE λl=>l.length=i.length/\∀ w∈l,okA w.Ann/\∃ v∈i,v.Value=w.Value
theorem zbgt (w:Wd):zId w↔zRf w.Value/\zgz w.Ann/\w.Ann.length<=z6:=by cases w; unfold zId; exact Iff.rfl
theorem zbhD {k f o:Int} {r:RowID} {a:yA} {i:yD} {b:Value} (h1:wf3 k) (h2:z4n r) (h3:zxK a/\a.length<=z6) (h4:wf3 f) (h5:zta i/\i.length<=z6) (h6:wf3 o) (h7:zRf b):zgn ⟨k,r,a,f,i,o,b⟩:=by
 unfold zgn; exact ⟨h1,h2,h3,h4,h5,h6,h7⟩
theorem zXS {f o:Int} {l:yD} {b:Value} (hl:l.length<=1000000) (h:∀ w∈l,okA w.Ann/\zRf w.Value) (hf:wf3 f) (ho:wf3 o) (hb:zRf b):okR (zr5 f l o b):=by
 unfold zr5;cases hk:zyw f l o b with
 | false=>exact ⟨zjL,.inr rfl⟩
 | true=>
  cases hv:l.all λw=>zx w.Ann with
  | false=>exact ⟨zjL,.inr rfl⟩
  | true=>
   simp only [q13,qk,q9];cases decide (0<(zdR l).length) with
   | true=>
    obtain ⟨tf,ts⟩:=zMU hl hk hv;have hr:z6=140737488351232:=rfl;have hlen:(zdR l).length<=1000000:=by rw [z4P]; exact q18 (q2f _ _) hl
    refine zL2 ⟨⟨tf.mono (by omega),ts⟩,zHK _ λt ht=> ?_,by simp [zcE,z6]⟩
    simp only [zcE,qj] at ht;subst ht;refine zXO ⟨by simp,by simp⟩ (λg hg=> ?_) (by simp)
    simp only [qj] at hg;subst hg;refine ⟨zbhD (z0q (zYQ (by omega))) ⟨zqN,zqN⟩ ⟨by unfold zxK; trivial,by simp⟩ hf ⟨zT3 _ λw hw=> ?_,by omega⟩ ho hb,⟨by simp,by simp⟩⟩
    have hm:=h w (zLU hw).1;exact (zbgt w).2 ⟨hm.2,hm.1.2⟩
   | false=>
    cases f==0&&zMM o (zef 0 b.Int) with
    | true=>exact ⟨z0P 1 (by omega),.inl rfl⟩
    | false=>exact ⟨zjL,.inl rfl⟩
theorem zHu {l:yA} (h:∀ a∈l,okA a) (i:Nat):okA (l.getD i default):=by
 by_cases hi:i<l.length
 ·exact h _ (zm hi)
 ·rw [qi,q25 (by omega)]; exact zjL
def okT (to:RowID->yB):Prop:=∀ r,z4n r->okA (to r)
variable {to}
mutual
theorem zZb (ht:okT to):∀ (x:At) (d:Nat),zgn x->zdl (zq d) x->GS (zdy to x)
 | ⟨k,r,a,f,i,o,b⟩=>λd hw hi=>by
  have hw':=zng hw;simp only at hw';obtain ⟨⟨ha,hal⟩,⟨hit,hil⟩,hb,hk,hr,hf,ho⟩:=hw';obtain ⟨⟨l1,l2,_⟩,f1,f2⟩:=hi;simp only at l1 l2 f1 f2;rw [zdy];by_cases hk0:k=0
  ·rw [if_pos hk0]; exact ht r hr
  ·rw [if_neg hk0];have hA:=zPV ht a d (λx hx=>(zhD ha x hx).1) f1
   refine zPm hA λxs has=> ?_
   have h0:=zHu has.2 0;have h1:=zHu has.2 1;split
   ·exact zPC (z8W h0 h1)
   ·split
    ·exact zPC (z8N h0)
    ·split
     ·exact zPC (z8H h0)
     ·have hI:=zLP ht i d (λx hx=>(zga hit x hx).2.1) λw hw=>(f2 w hw).2
      refine zPm hI λis his=> ?_
      refine zPC (zXS (by omega) (λw hw=>⟨(his.2 w hw).1, ?_⟩) hf ho hb)
      obtain ⟨v,hv,e⟩:=(his.2 w hw).2;rw [<- e]; exact (zga hit v hv).1
theorem zFm (ht:okT to):∀ (l:yC) (d:Nat),(∀ f∈l,zgn f.At/\zdl (zq d) f.At)->∀ p,okA p->GS (zc7 to l p)
 | [],_,_,p,hp=>by rw [zc7]; exact hp
 | ⟨x,e⟩::r,d,h,p,hp=>by
  rw [zc7];have hx:=zZb ht x d (h ⟨x,e⟩ (by simp)).1 (h ⟨x,e⟩ (by simp)).2
  refine zPm hx λb hb=>zPm (z5R hb _ p hp) λq hq=> ?_
  exact zFm ht r d (λf hf=>h f (by simp [hf])) q hq
theorem zNL (ht:okT to):∀ (a:yB) (d:Nat),zgz a->(∀ t∈a,∀ f∈t.Fs,zdl (zq d) f.At)->∀ s,okA s->GS (zb0 to a s)
 | [],_,_,_,s,hs=>by rw [zb0]; exact hs
 | ⟨c,fs⟩::r,d,hw,hi,s,hs=>by
  rw [zb0];have hwt:=zqG hw ⟨c,fs⟩ (by simp)
  have hp:=zFm ht fs d (λf hf=>⟨(znH (zlT (ztI hwt).2.1 f hf)).1,hi ⟨c,fs⟩ (by simp) f hf⟩) (zuN c) (zbcu c)
  refine zPm hp λp hp=>zPm (zPC (z0E hs hp)) λq hq=> ?_
  exact zNL ht r d (zHK _ λt ht=>zqG hw t (by simp [ht])) (λt ht=>hi t (by simp [ht])) q hq
theorem zPV (ht:okT to):∀ (l:yA) (d:Nat),(∀ a∈l,zgz a)->(∀ a∈l,zq d a)->GL l.length (zjm to l)
 | [],_,_,_=>by rw [zjm]; exact ⟨rfl,λa ha=>by cases ha⟩
 | a::r,d,h,hi=>by
  rw [zjm];have hf:=hi a (by simp)
  have h1:GS (zb0 to a []):=by
   cases d with
   | zero=>exact hf.elim
   | succ d=>exact zNL ht a d (h a (by simp)) (λt ht f hf'=>(hf.2 t ht).2 f hf') [] zjL
  have h2:=zPV ht r d (λb hb=>h b (by simp [hb])) (λb hb=>hi b (by simp [hb]))
  revert h1 h2;cases zb0 to a [] with
  | inl e=>exact λh _=>h
  | inr b=>
   cases zjm to r with
   | inl e=>exact λ_ h=>h
   | inr l=>
    intro h1 h2;refine ⟨by simp [h2.1],λx hx=> ?_⟩
    rcases q8.1 hx with rfl | hx
    ·exact h1
    ·exact h2.2 x hx
theorem zLP (ht:okT to):∀ (l:yD) (d:Nat),(∀ w∈l,zgz w.Ann)->(∀ w∈l,zq d w.Ann)->GI l (zfw to l)
 | [],_,_,_=>by rw [zfw]; exact ⟨rfl,λa ha=>by cases ha⟩
 | ⟨v,a⟩::r,d,h,hi=>by
  rw [zfw];have hf:zq d a:=hi ⟨v,a⟩ (by simp)
  have h1:GS (zb0 to a []):=by
   cases d with
   | zero=>exact hf.elim
   | succ d=>exact zNL ht a d (h ⟨v,a⟩ (by simp)) (λt ht f hf'=>(hf.2 t ht).2 f hf') [] zjL
  have h2:=zLP ht r d (λb hb=>h b (by simp [hb])) (λb hb=>hi b (by simp [hb]))
  revert h1 h2;cases zb0 to a [] with
  | inl e=>exact λh _=>h
  | inr b=>
   cases zfw to r with
   | inl e=>exact λ_ h=>h
   | inr l=>
    intro h1 h2;refine ⟨by simp [h2.1],λx hx=> ?_⟩
    rcases q8.1 hx with rfl | hx
    ·exact ⟨h1,⟨v,a⟩,by simp,rfl⟩
    ·obtain ⟨h3,w,hw,e⟩:=h2.2 x hx;exact ⟨h3,w,by simp [hw],e⟩
end
def toA:yE->RowID->yB
 | [],r=>zp0 r
 | b::l,r=>if b.Row=r then b.To else toA l r
def okB (l:yE):Prop:=l.length<=1000/\∀ b∈l,okA b.To
theorem zbb3:∀ {l:yE},(∀ b∈l,okA b.To)->okT (toA l)
 | [],_,r,hr=>by rw [toA]; exact zbmE hr
 | b::l,h,r,hr=>by
  rw [toA];split
  ·exact h b (by simp)
  ·exact zbb3 (λc hc=>h c (by simp [hc])) r hr
theorem zbfd (a b:RowID):(a.Table==b.Table&&(a.Seq==b.Seq&&true))=decide (a=b):=by
 obtain ⟨t,s⟩:=a; obtain ⟨t',s'⟩:=b;rw [q23,zfi,zfi, <- Bool.decide_and];congr 1;simp
theorem zbjz (a b:RowID):(a.Table==b.Table&&a.Seq==b.Seq)=decide (a=b):=by rw [<- zbfd,q23]
theorem z7L:∀ (l:yE) (r:RowID) (i:Nat),(ixf (λb=>decide (b.Row=r)) l i= -1/\toA l r=zp0 r)\/∃ j,j<l.length/\ixf (λb=>decide (b.Row=r)) l i=((i+j:Nat):Int)/\toA l r=(l.getD j default).To
 | [],r,i=>.inl ⟨rfl,rfl⟩
 | b::l,r,i=>by
  rw [ixf,toA];by_cases h:b.Row=r
  ·rw [qg h,q7,if_pos h];exact .inr ⟨0,by simp,rfl,rfl⟩
  ·rw [qd h,q9,if_neg h];rcases z7L l r (i+1) with ⟨h1,h2⟩ | ⟨j,h1,h2,h3⟩
   ·exact .inl ⟨h1,h2⟩
   ·exact .inr ⟨j+1,by simp; omega,by rw [h2]; congr 1; omega,h3⟩
theorem zbnQ {l:yE} (h:okB l) (r:RowID):ziD r l=(true,toA l r):=by
 unfold ziD zxU Wy.ix
 have hi:zcJ l r=(true,ixf (λb=>decide (b.Row=r)) l 0):=by
  have e:zcJ l r=IH (λ(g:RowID×Unit) x=>zgi x g.1) (l.length+(Int.ofNat l.length).toNat +Int.toNat (0:Int)+(1:Nat)) (r,()) l:=rfl
  rw [e]
  exact zbfW _ _ _ _ _ (by have:=h.1; omega) (λx _=>by
   unfold zgi zuS;rw [Wy.fin_k,zbfd]) (by omega)
 rw [Wy.fin_bn,hi];rcases z7L l r 0 with ⟨h1,h2⟩ | ⟨j,h1,h2,h3⟩
 ·rw [h1,h2];simp only [q7,Wy.fin_i,Wy.fin_bn,Wy.fin_k,(zbht r).1];rfl
 ·rw [q1s] at h2;rw [h2,h3];have hm:=h.2 _ (zm h1);have e1:decide ((j:Int)≥(0:Int))=true:=by simp
  simp only [q7,Wy.fin_i,Wy.fin_bn,Wy.fin_k,e1,tT,h1,zIs hm.1.1 (show (12:Nat)<=100 by omega)]
theorem zbjH {l:yE} (h:okB l) (r:RowID):∃ b q,zCc l r=(true,(b,q))/\((q=true/\b=toA l r)\/(q=false/\toA l r=zp0 r)):=by
 have key:∀ (n i:Nat),l.length<i+n->i<=l.length->∃ x,zHg n l i r=(true,x)/\((x=.inl (toA (l.drop i) r,true))\/(x=.inr ()/\toA (l.drop i) r=zp0 r)):=by
  intro n;induction n with
  | zero=>intro i h1 h2; omega
  | succ n ih=>
   intro i h1 h2;have hlen:=h.1;show ∃ x,(zHO l i r).ev (λx y=>zHg n x.1 x.2.2.1 y.1) (λr=>(true,r)) (false,.inl default)=(true,x)/\_
   unfold zHO Wy.ix;by_cases hi:i<l.length
   ·simp only [Wy.ev_i,Wy.ev_k,Wy.ev_h,Wy.ev_bn,Wy.ev_d,tT,hi,zbjz];rw [zbd hi,toA];by_cases hr:(l.getD i default).Row=r
    ·rw [qg hr,if_pos hr,q7];exact ⟨_,rfl,.inl rfl⟩
    ·rw [qd hr,if_neg hr,q9,zu (by omega)]
     exact ih (i+1) (by omega) (by omega)
   ·simp only [Wy.ev_i,Wy.ev_k,Wy.ev_h,Wy.ev_bn,Wy.ev_d,tT,hi];rw [zb2 hi];exact ⟨_,rfl,.inr ⟨rfl,rfl⟩⟩
 obtain ⟨x,h1,h2⟩:=key (l.length+Int.toNat (0:Int)+(1:Nat)) 0 (by omega) (by omega)
 unfold zCc zVM;rw [show ((0:Nat):Int)=(0:Int) from rfl] at h1
 rw [Wy.fin_bn,h1];rw [qq] at h2;rcases h2 with rfl | ⟨rfl,h2⟩
 ·exact ⟨_,_,rfl,.inl ⟨rfl,rfl⟩⟩
 ·exact ⟨_,_,rfl,.inr ⟨rfl,h2⟩⟩
def RS (s:Int⊕yB) (e:Int) (p:yB):Prop:=match s with
 | .inl x=>e=x/\x≠0
 | .inr q=>e=0/\p=q
theorem zbj3 (r:yB×Int):RS (opS r) r.2 r.1:=by
 unfold opS;by_cases h:r.2=0
 ·rw [if_pos h]; exact ⟨h,rfl⟩
 ·rw [if_neg h]; exact ⟨rfl,h⟩
theorem zbec (b:yB) (s:Int⊕yB):sbd s (zw6 b 0)=s:=by cases s <;>rfl
section
variable (g:At->yE->Bool×(yB×Int)) (to:yE)
theorem zbgf (b:yB) (hb:okA b) (t16:yB) (t17 t18:Int) (t26:yC) (t27 t28:Int) (N:Nat) (hN:N<=1000000) (sum:yB):
  ∀ (n i:Nat) (e:Int) (p:yB) (s:Int⊕yB),N<i+n->i<=N->GS s->RS s e p->∃ e' p',zrA g n to b e t16 t17 t18 t26 t27 t28 N i sum p=(true,(to,e',t16,t17,t18,t26,t27,t28,sum,p'))/\RS (sbd s (zw6 b (N - i))) e' p'
 | 0,i,e,p,s,h1,h2,_,_=>by omega
 | n+1,i,e,p,s,h1,h2,hs,hr=>by
  show ∃ e' p',(zrv g to b e t16 t17 t18 t26 t27 t28 N i sum p).ev (λx y=>zrA g n x.1.1.1 x.2.2.2.1 x.2.2.2.2.1 x.2.2.2.2.2.1 x.2.2.2.2.2.2.1 x.2.2.2.2.2.2.2.1 x.2.2.2.2.2.2.2.2.1 x.2.2.2.2.2.2.2.2.2.1 x.2.2.2.2.2.2.2.2.2.2.1 x.2.2.2.2.2.2.2.2.2.2.2.1 x.2.2.2.2.2.2.2.2.2.2.2.2.1 y.1 y.2.1) (λr=>(true,r)) (false,default)=_/\_
  unfold zrv;by_cases hi:i<N
  ·have hk:N - i=(N - (i+1))+1:=by omega
   cases s with
   | inl x=>
    obtain ⟨rfl,hx⟩:=hr;have he:(e==(0:Int))=false:=by simp [hx]
    simp only [Wy.ev_i,Wy.ev_k,Wy.ev_h,Wy.ev_bn,Wy.ev_d,zCe,hi,decide_true,q7,he,q9,zu (show i<4611686018427387904 by omega)]
    exact zbgf b hb t16 t17 t18 t26 t27 t28 N hN sum n (i+1) e p (.inl e) (by omega) (by omega) hs ⟨rfl,hx⟩
   | inr q=>
    obtain ⟨rfl,rfl⟩:=hr;have hp:okA p:=hs;simp only [Wy.ev_i,Wy.ev_k,Wy.ev_h,Wy.ev_bn,Wy.ev_d,zCe,hi,decide_true,q7,(zbmV hp hb).1,zu (show i<4611686018427387904 by omega),show ((0:Int)==0)=true from rfl]
    rw [hk];exact zbgf b hb t16 t17 t18 t26 t27 t28 N hN sum n (i+1) (zvS p b).2 (zvS p b).1 (opS (zvS p b)) (by omega) (by omega) (zPC (z8J hp hb)) (zbj3 _)
  ·have hk:N - i=0:=by omega
   simp only [Wy.ev_i,Wy.ev_k,zCe,hi,decide_false,q9];rw [hk,zbec];exact ⟨e,p,rfl,hr⟩
def AG (l:yC):Prop:=∀ f∈l,(g f.At to=(true,ofS (zdy (toA to) f.At))/\GS (zdy (toA to) f.At))/\0<=f.Exp/\f.Exp<=1000000
theorem zbig {s:Int⊕yB} (h:GS s):okA (ofS s).1:=by
 cases s with
 | inl e=>exact zjL
 | inr a=>exact h
theorem zbc5 {s:Int⊕yB} (h:GS s) (p:yB):RS (sbd s λ_=>.inr p) (ofS s).2 p:=by
 cases s with
 | inl e=>exact ⟨rfl,h⟩
 | inr a=>exact ⟨rfl,rfl⟩
theorem zbd3 {s:Int⊕yB} (h:GS s) {p:yB} (hp:okA p):GS (sbd s λ_=>.inr p):=zPm h λ_ _=>hp
theorem z9l {s:Int⊕yB} (p:yB) (N:Nat):sbd (sbd s λ_=>.inr p) (zw6 (ofS s).1 N)=sbd s λb=>zw6 b N p:=by
 cases s <;>rfl
theorem zbmr (l:yC) (hl:l.length<=1000000) (hg:AG g to l) (t16:yB) (t17 t18:Int) (sum:yB):
  ∀ (n i:Nat) (p:yB),l.length<i+n->i<=l.length->okA p->zsT g n to t16 t17 t18 l l.length i sum p=(true,match zc7 (toA to) (l.drop i) p with
   | .inl e=>.inl e
   | .inr q=>.inr (to,t16,t17,t18,sum,q))
 | 0,i,p,h1,h2,_=>by omega
 | n+1,i,p,h1,h2,hp=>by
  show (zsP g to t16 t17 t18 l l.length i sum p).ev (λx y=>zsT g n x.1.1.1 x.2.2.2.1 x.2.2.2.2.1 x.2.2.2.2.2.1 x.2.2.2.2.2.2.1 x.2.2.2.2.2.2.2.1 x.2.2.2.2.2.2.2.2.1 y.1 y.2.1) (λr=>(true,r)) (false,.inl default)=_
  unfold zsP Wy.ix At.et;by_cases hi:i<l.length
  ·obtain ⟨⟨hf,hG⟩,e0,e1⟩:=hg _ (zm hi);obtain ⟨N,hN⟩:∃ N:Nat,(l.getD i default).Exp=(N:Int):=⟨_,(Int.toNat_of_nonneg e0).symm⟩
   obtain ⟨e',p',h11,hrs⟩:=zbgf g to (ofS (zdy (toA to) (l.getD i default).At)).1 (zbig hG) t16 t17 t18 l l.length i N (by omega) sum
    (to.length+(ofS (zdy (toA to) (l.getD i default).At)).1.length+(ofS (zdy (toA to) (l.getD i default).At)).2.toNat +t16.length+t17.toNat +t18.toNat +l.length+(l.length:Int).toNat +(i:Int).toNat +(N:Int).toNat +Int.toNat (0:Int)+sum.length+p.length+(1:Nat)) 0 _ p _ (by omega) (by omega) (zbd3 hG hp) (zbc5 hG p)
   rw [z9l,Nat.sub_zero] at hrs;rw [show ((0:Nat):Int)=(0:Int) from rfl] at h11
   rw [zbd hi,zAz,hN,qt];simp only [Wy.ev_i,Wy.ev_k,Wy.ev_h,Wy.ev_bn,Wy.ev_d,tT,hi,At.eta,hf,hN,zj1];rw [show Int.toNat (l.length:Int)=l.length from qt _,show Int.toNat (i:Int)=i from qt _,show Int.toNat (N:Int)=N from qt _] at h11
   rw [h11];have hS:=hG;revert hrs hS;cases zdy (toA to) (l.getD i default).At with
   | inl x=>
    rintro ⟨rfl,hx⟩ _
    simp [hx,zEd]
   | inr b=>
    intro hrs hb;simp only [zb3] at hrs ⊢;have hq:=z5R (b:=b) hb N p hp;revert hrs hq;cases zw6 b N p with
    | inl x=>
     rintro ⟨rfl,hx⟩ _
     simp [hx,zEd]
    | inr q=>
     rintro ⟨rfl,rfl⟩ hq
     simp only [zb3,decide_true,qk,q7,q9,zu (show i<4611686018427387904 by omega)]
     exact zbmr l hl hg t16 t17 t18 sum n (i+1) p' (by omega) (by omega) hq
  ·simp only [Wy.ev_i,Wy.ev_k,Wy.ev_h,Wy.ev_bn,Wy.ev_d,tT,hi];rw [zb2 hi,zCp]
theorem zbl7 (l:yB) (hl:l.length<=1000000) (hg:∀ t∈l,t.Fs.length<=1000000/\AG g to t.Fs) (hok:∀ t∈l,∀ p,okA p->GS (zc7 (toA to) t.Fs p)):
  ∀ (n i:Nat) (s:yB),l.length<i+n->i<=l.length->okA s->zs4 g n to l l.length i s=(true,zb0 (toA to) (l.drop i) s)
 | 0,i,s,h1,h2,_=>by omega
 | n+1,i,s,h1,h2,hs=>by
  show (zs6 g to l l.length i s).ev (λx y=>zs4 g n x.1.1.1 x.2.2.1 x.2.2.2.1 x.2.2.2.2.1 y.1) (λr=>(true,r)) (false,.inl default)=_
  unfold zs6 Wy.ix;by_cases hi:i<l.length
  ·have ht:=hg _ (zm hi);have hc:=zbcu (l.getD i default).Cf;have h7:=zbmr g to (l.getD i default).Fs ht.1 ht.2 l l.length i s (to.length+l.length+(l.length:Int).toNat +(i:Int).toNat +(l.getD i default).Fs.length+((l.getD i default).Fs.length:Int).toNat +Int.toNat (0:Int)+s.length+(zuN (l.getD i default).Cf).length+(1:Nat)) 0 (zuN (l.getD i default).Cf) (by omega) (by omega) hc
   rw [show ((0:Nat):Int)=(0:Int) from rfl,qq] at h7
   simp only [qt] at h7;rw [zbd hi,zLx];simp only [Wy.ev_i,Wy.ev_k,Wy.ev_h,Wy.ev_bn,Wy.ev_d,tT,hi,(zbjx _).1];rw [h7];have hS:=hok _ (zm hi) _ hc;revert hS;cases zc7 (toA to) (l.getD i default).Fs (zuN (l.getD i default).Cf) with
   | inl e=>intro _; rfl
   | inr p=>
    intro hp;have hp:okA p:=hp;simp only [zb3,isL,getR,q7,q9,(zbhC hs hp).1,zj1];have hG:=z0E hs hp;unfold opS;by_cases he:(zmR s p).2=0
    ·rw [if_pos he,qg he,zb3,zu (show i<4611686018427387904 by omega)]
     exact zbl7 l hl hg hok n (i+1) _ (by omega) (by omega) hG.1
    ·rw [if_neg he,qd he]; rfl
  ·simp only [Wy.ev_i,Wy.ev_k,Wy.ev_h,Wy.ev_bn,Wy.ev_d,tT,hi];rw [zb2 hi,zPA]
theorem zbnZ (a:yB) (hl:a.length<=1000000) (hg:∀ t∈a,t.Fs.length<=1000000/\AG g to t.Fs) (hok:∀ t∈a,∀ p,okA p->GS (zc7 (toA to) t.Fs p)):zlc g a to=(true,ofS (zb0 (toA to) a [])):=by
 unfold zlc zBX;have h3:=zbl7 g to a hl hg hok (to.length+a.length+(Int.ofNat a.length).toNat +Int.toNat (0:Int)+(0:Nat)+(1:Nat)) 0 [] (by omega) (by omega) zjL
 rw [show ((0:Nat):Int)=(0:Int) from rfl,qq] at h3
 rw [Wy.fin_bn,show Int.ofNat a.length=(a.length:Int) from rfl] at *
 rw [h3];cases zb0 (toA to) a [] <;>rfl
end
section
variable (g:yB->yE->Bool×(yB×Int)) (to:yE)
theorem zbmo (x:At) (l:yA) (hl:l.length<=1000000) (hg:∀ a∈l,g a to=(true,ofS (zb0 (toA to) a []))/\GS (zb0 (toA to) a [])):
  ∀ (n i:Nat) (xs:yA),l.length<i+n->i<=l.length->xs.length<=i->zjv g n to l l.length i x xs=(true,match zjm (toA to) (l.drop i) with
   | .inl e=>.inl e
   | .inr ys=>.inr (to,x,xs++ys))
 | 0,i,xs,h1,h2,_=>by omega
 | n+1,i,xs,h1,h2,hx=>by
  have hreach:zD=70368744177664:=rfl;show (znG g to l l.length i x xs).ev (λx y=>zjv g n x.1.1.1 x.2.2.2.1 x.2.2.2.2.1 x.2.2.2.2.2.1 y.1 y.2.1) (λr=>(true,r)) (false,.inl default)=_
  unfold znG Wy.ix;by_cases hi:i<l.length
  ·obtain ⟨hf,hG⟩:=hg _ (zm hi);have hb:decide ((xs.length+1)*24<=zD)=true:=by simp only [qb]; omega
   rw [zbd hi,zk6];simp only [Wy.ev_i,Wy.ev_k,Wy.ev_h,Wy.ev_bn,Wy.ev_d,tT,hi,hf,zj1,qy,hb];revert hG;cases zb0 (toA to) (l.getD i default) [] with
   | inl e=>intro he; simp [ofS,show e≠0 from he,zEd]
   | inr b=>
    intro _;simp only [ofS,decide_true,qk,q9,zb3,zu (show i<4611686018427387904 by omega)]
    rw [zbmo x l hl hg n (i+1) (xs++[b]) (by omega) (by omega) (by simp; omega)]
    cases zjm (toA to) (l.drop (i+1)) with
    | inl e=>rfl
    | inr ys=>simp [zb3]
  ·simp only [Wy.ev_i,Wy.ev_k,Wy.ev_h,Wy.ev_bn,Wy.ev_d,tT,hi];rw [zb2 hi,zpU]; simp
theorem zbj6 (x:At) (l:yD) (hl:l.length<=1000000) (hg:∀ w∈l,g w.Ann to=(true,ofS (zb0 (toA to) w.Ann []))/\GS (zb0 (toA to) w.Ann [])):
  ∀ (n i:Nat) (xs:yD),l.length<i+n->i<=l.length->xs.length<=i->ziS g n to l l.length i x xs=(true,match zfw (toA to) (l.drop i) with
   | .inl e=>.inl e
   | .inr ys=>.inr (x,xs++ys))
 | 0,i,xs,h1,h2,_=>by omega
 | n+1,i,xs,h1,h2,hx=>by
  have hreach:zD=70368744177664:=rfl;show (zmS g to l l.length i x xs).ev (λx y=>ziS g n x.1.1.1 x.2.2.2.1 x.2.2.2.2.1 x.2.2.2.2.2.1 y.1 y.2.1) (λr=>(true,r)) (false,.inl default)=_
  unfold zmS Wy.ix;by_cases hi:i<l.length
  ·obtain ⟨hf,hG⟩:=hg _ (zm hi);have hb:decide ((xs.length+1)*56<=zD)=true:=by simp only [qb]; omega
   rw [zbd hi,zFD];simp only [Wy.ev_i,Wy.ev_k,Wy.ev_h,Wy.ev_bn,Wy.ev_d,tT,hi,hf,zj1,qy,hb];revert hG;cases zb0 (toA to) (l.getD i default).Ann [] with
   | inl e=>intro he; simp [ofS,show e≠0 from he,zEd]
   | inr b=>
    intro _;simp only [ofS,decide_true,qk,q9,zb3,zu (show i<4611686018427387904 by omega)]
    rw [zbj6 x l hl hg n (i+1) (xs++[WO.mk (l.getD i default).Value b]) (by omega) (by omega) (by simp; omega)]
    cases zfw (toA to) (l.drop (i+1)) with
    | inl e=>rfl
    | inr ys=>simp [zb3]
  ·simp only [Wy.ev_i,Wy.ev_k,Wy.ev_h,Wy.ev_bn,Wy.ev_d,tT,hi];rw [zb2 hi,zCk]; simp
structure XG (x:At):Prop where
 va:zoX x=true
 lens:x.Ag.length<=1000000/\x.Items.length<20
 ga:∀ a∈x.Ag,g a to=(true,ofS (zb0 (toA to) a []))/\GS (zb0 (toA to) a [])
 gi:∀ w∈x.Items,g w.Ann to=(true,ofS (zb0 (toA to) w.Ann []))/\GS (zb0 (toA to) w.Ann [])
 sa:GL x.Ag.length (zjm (toA to) x.Ag)
 si:GI x.Items (zfw (toA to) x.Items)
 wf:zgn x
theorem zblo {f o:Int} {i l:yD} {b:Value} (h20:i.length<20) (hl:l.length=i.length/\∀ w∈l,okA w.Ann/\∃ v∈i,v.Value=w.Value):zoz f l o b=(true,zr5 f l o b)/\zwL f l o b=(true,zr5 f l o b):=by
 have h1:∀ w∈l,zq 12 w.Ann/\zO w.Ann<=4611686018427387904:=λw hw=>(hl.2 w hw).1.1
 have h2:(l.filter zm2).length<20:=Nat.lt_of_le_of_lt (q2f _ _) (by omega)
 exact ⟨zbk1 f l o b (by omega) h1 (by omega) h2,zbd2 f l o b (by omega) h1 (by omega)⟩
theorem z9X {x:At} (h:zoX x=true):(x.Kind=1->x.Ag.length=2)/\(x.Kind=2\/x.Kind=3->x.Ag.length=1):=by
 cases zTN.1 h <;>simp
theorem zblg (hto:okB to) (x:At) (h:XG g to x):zin g x to=(true,ofS (zdy (toA to) x)):=by
 unfold zin zye Wy.ix At.et;have h5:=zbmo g to x x.Ag h.lens.1 h.ga (to.length+x.Ag.length+(Int.ofNat x.Ag.length).toNat +Int.toNat (0:Int)+x.Ag.length+x.Items.length+(0:Nat)+(1:Nat)) 0 [] (by omega) (by omega) (by simp)
 rw [show ((0:Nat):Int)=(0:Int) from rfl,qq] at h5
 have h5':zjv g (to.length+x.Ag.length+(Int.ofNat x.Ag.length).toNat +Int.toNat (0:Int)+x.Ag.length+x.Items.length+(0:Nat)+(1:Nat)) to x.Ag (Int.ofNat x.Ag.length) 0 x []=_:=h5;have h21:=zbj6 g to x x.Items (by have:=h.lens.2; omega) h.gi (to.length+x.Items.length+(Int.ofNat x.Items.length).toNat +Int.toNat (0:Int)+x.Ag.length+x.Items.length+(0:Nat)+(1:Nat)) 0 [] (by omega) (by omega) (by simp)
 rw [show ((0:Nat):Int)=(0:Int) from rfl,qq] at h21
 have h21':ziS g (to.length+x.Items.length+(Int.ofNat x.Items.length).toNat +Int.toNat (0:Int)+x.Ag.length+x.Items.length+(0:Nat)+(1:Nat)) to x.Items (Int.ofNat x.Items.length) 0 x []=_:=h21;rw [At.eta,zPg];have b0:=zfi x.Kind 0;have b1:=zfi x.Kind 1;have b2:=zfi x.Kind 2;have b3:=zfi x.Kind 3;simp only [Wy.fin_i,Wy.fin_bn,Wy.fin_k,zbnQ hto,q7,h5',q10];by_cases hk0:x.Kind=0
 ·rw [b0,qg hk0,if_pos hk0]; rfl
 ·rw [b0,qd hk0,if_neg hk0,q9];have hA:=h.sa;have hlen:=z9X h.va;revert hA;cases zjm (toA to) x.Ag with
  | inl e=>intro _; rfl
  | inr xs=>
   intro hxs;have hxl:xs.length=x.Ag.length/\∀ a∈xs,okA a:=hxs;have o0:=zHu hxl.2 0;have o1:=zHu hxl.2 1;simp only [isL,getR,q9,zb3];by_cases hk1:x.Kind=1
   ·have:=hlen.1 hk1;rw [b1,qg hk1,if_pos hk1];simp only [q7,show Int.toNat (0:Int)=0 from rfl,show Int.toNat (1:Int)=1 from rfl,(zbiI o0 o1).1,zDL (z8W o0 o1).2]
    simp [hxl.1,this]
   ·rw [b1,qd hk1,if_neg hk1,q9];by_cases hk2:x.Kind=2
    ·have:=hlen.2 (.inl hk2);rw [b2,qg hk2,if_pos hk2];simp only [q7,show Int.toNat (0:Int)=0 from rfl,show Int.toNat (1:Int)=1 from rfl,(zbiZ o0).1,zDL (z8N o0).2]
     simp [hxl.1,this]
    ·rw [b2,qd hk2,if_neg hk2,q9];by_cases hk3:x.Kind=3
     ·have:=hlen.2 (.inr hk3);rw [b3,qg hk3,if_pos hk3];simp only [q7,show Int.toNat (0:Int)=0 from rfl,show Int.toNat (1:Int)=1 from rfl,(zbia o0).1,zDL (z8H o0).2]
      simp [hxl.1,this]
     ·rw [b3,qd hk3,if_neg hk3,q9,At.eta,h21'];have hI:=h.si;revert hI;cases zfw (toA to) x.Items with
      | inl e=>intro _; rfl
      | inr is=>
       intro his;have ht:=zblo (f:=x.Func) (o:=x.Op) (b:=x.Bd) h.lens.2 his;simp only [q7,q9,q10,ht.1,zb3];have hw:=zng h.wf;have hl:is.length=x.Items.length/\∀ w∈is,okA w.Ann/\∃ v∈x.Items,v.Value=w.Value:=his
       rw [zDL (zXS (by have:=h.lens.2; omega) (λw hw'=>⟨(hl.2 w hw').1,by
        obtain ⟨v,hv,e⟩:=(hl.2 w hw').2;rw [<- e]; exact (zga hw.2.1.1 v hv).1⟩) hw.2.2.2.2.2.1 hw.2.2.2.2.2.2 hw.2.2.1).2]
end
theorem zbi5 {a b:yB} (ha:okA a) (hb:okA b):zzV a b=(true,zmR a b):=by
 unfold zzV zQS zmR;simp only [Wy.fin_bn,Wy.fin_i,Wy.fin_k,ha.rvalid,hb.rvalid,q7];cases va:zx a with
 | false=>first | trivial | rfl
 | true=>
  cases vb:zx b with
  | false=>first | trivial | rfl
  | true=>
   obtain ⟨sa,la,ta⟩:=zo0 va ha.2.1;obtain ⟨sb,lb,tb⟩:=zo0 vb hb.2.1;have ga:∀ t∈a,GT t:=λt ht=>(ta t ht).1
   have gb:∀ t∈b,GT t:=λt ht=>(tb t ht).1
   have hsl:(zcT a b).length<=1000000:=by have:=zDq b a; omega
   obtain ⟨f1,f2⟩:=zY1 hsl (zIP b a sa ga gb);simp only [qk,q9,q13,zbfz a b ga gb sa la lb,zAj f1 (by omega:10<=100) f2,q7] <;>first | trivial | rfl
theorem zbiH {a b:yB} (ha:okA a) (hb:okA b):zz0 a b=(true,zvS a b):=by
 unfold zz0 zQY zvS;simp only [Wy.fin_bn,Wy.fin_i,Wy.fin_k,ha.rvalid,hb.rvalid,q7];cases va:zx a with
 | false=>first | trivial | rfl
 | true=>
  cases vb:zx b with
  | false=>first | trivial | rfl
  | true=>
   obtain ⟨sa,la,ta⟩:=zo0 va ha.2.1;obtain ⟨sb,lb,tb⟩:=zo0 vb hb.2.1;have hpl:(zdC a b).length<=1000000:=by rw [zPX]; have:=q1z la lb; omega
   have hsl:(zd0 a b).length<=1000000:=by have:=zDq (zdC a b) []; simp at this; exact q18 this hpl
   obtain ⟨f1,f2⟩:=zY1 hsl (zIP (zdC a b) [] .nil (λt ht=>by cases ht) (zU0 ta tb))
   have f1:zq 10 (zd0 a b):=f1;have f2:zO (zd0 a b)<=4611686018427387904:=f2;simp only [qk,q9,q13,zbdR a b ta tb la lb,zAj f1 (by omega:10<=100) f2,q7] <;>first | trivial | rfl
theorem zbgu {a b:yB} (ha:okA a) (hb:okA b):zup a b=(true,zBt a b):=by
 unfold zup zJZ zBt;simp only [Wy.fin_bn,Wy.fin_i,Wy.fin_k,ha.rvalid,hb.rvalid,q7];cases va:zx a with
 | false=>first | trivial | rfl
 | true=>
  cases vb:zx b with
  | false=>first | trivial | rfl
  | true=>
   obtain ⟨f1,f2⟩:=zDi (l:=[a,b]) (k:=1) (by simp) (λx hx=>by
    simp only [q8,q16,or_false] at hx;rcases hx with rfl | rfl
    ·exact va
    ·exact vb)
   simp only [qk,q9,q13,zLX,zCw ha.1.1 (by omega:12<=100),zD2,zAj f1 (by omega:10<=100) f2,q7,opR]
   by_cases hb0:b=[]
   ·simp only [hb0,decide_true,q7,if_true] <;>trivial
   ·by_cases ha0:a=[]
    ·simp only [hb0,ha0,decide_true,decide_false,q7,q9,if_true,if_false,true_or] <;>trivial
    ·by_cases hab:a=b
     ·simp only [hb0,ha0,hab,decide_true,decide_false,q7,q9,if_true,if_false,or_true] <;>trivial
     ·simp only [hb0,ha0,hab,decide_false,q9,if_false,or_self] <;>first | trivial | rfl
theorem zbgp {a:yB} (ha:okA a):zuy a=(true,zBF a):=by
 unfold zuy zJR zBF;simp only [Wy.fin_bn,Wy.fin_i,Wy.fin_k,ha.rvalid,q7];cases va:zx a with
 | false=>first | trivial | rfl
 | true=>
  obtain ⟨f1,f2⟩:=zDi (l:=[a]) (k:=2) (by simp) (λx hx=>by rw [qj] at hx; subst hx; exact va)
  have hla:a.length<=1000000000:=by have:=(zeM va).2.2; omega
  have hbu:isB a=isU a:=zNq va;simp only [qk,q9,zLX,zFU,zpd a hla,zD2,zAj f1 (by omega:10<=100) f2,q7,opR,hbu]
  rw [show zkR (zcE ⟨2,⟨0,0⟩,[a],0,[],0,⟨0,0,ByteArray.mk #[]⟩⟩)=zkR (zcE (zUg a)) from rfl]
  clear f1 f2;generalize zkR (zcE (zUg a))=R;by_cases h0:a=[]
  ·simp only [h0,decide_true,q7,if_true,true_or] <;>trivial
  ·cases hu:isU a with
   | true=>simp only [h0,decide_false,q9,q7,if_true,or_true] <;>trivial
   | false=>
    simp only [h0,decide_false,q9,if_false,or_self,q1e]
    match a,h0 with
    | [t],_=>
     have e1:zuo [t]=(t.Fs.length==0):=by simp [zuo]
     have e2:isC [t]=(t.Fs.length==0):=rfl;rw [e1,e2];cases (t.Fs.length==0) with
     | true=>simp only [q7,if_true] <;>first | trivial | rfl
     | false=>simp only [q9,q7,q1e,if_false] <;>first | trivial | rfl
    | t::s::r,_=>
     have e2:isC (t::s::r)=false:=rfl;simp only [zNr,e2,q9,q7,q1e,if_false]
theorem zbeo {a:yB} (ha:okA a):zrS a=(true,zBA a):=by
 unfold zrS zGW zBA;simp only [Wy.fin_bn,Wy.fin_i,Wy.fin_k,ha.rvalid,q7];cases va:zx a with
 | false=>first | trivial | rfl
 | true=>
  obtain ⟨f1,f2⟩:=zDi (l:=[a]) (k:=3) (by simp) (λx hx=>by rw [qj] at hx; subst hx; exact va)
  have hla:a.length<=1000000000:=by have:=(zeM va).2.2; omega
  simp only [qk,q9,zLX,zpd a hla,zD2,zAj f1 (by omega:10<=100) f2,q7,opR]
  by_cases h0:a=[]
  ·simp only [h0,decide_true,q7,if_true] <;>first | trivial | rfl
  ·cases hu:zuo a with
   | true=>simp only [h0,decide_false,q9,q7,if_true,if_false] <;>trivial
   | false=>simp only [h0,decide_false,q9,if_false,q1e] <;>first | trivial | rfl
theorem zbgA (n:Int):zus n=(true,zuN n):=by
 unfold zus zKt zuN;by_cases h:n<1
 ·simp only [Wy.fin_i,Wy.fin_k,h,decide_true,q7,if_true]
 ·simp only [Wy.fin_i,Wy.fin_k,h,decide_false,q9,if_false]
theorem zbiL {f o:Int} {i l:yD} {b:Value} (h20:i.length<=1000000) (hl:l.length=i.length/\∀ w∈l,okA w.Ann/\∃ v∈i,v.Value=w.Value):zwL f l o b=(true,zr5 f l o b):=by
 have h1:∀ w∈l,zq 12 w.Ann/\zO w.Ann<=4611686018427387904:=λw hw=>(hl.2 w hw).1.1
 exact zbd2 f l o b (by omega) h1 (by omega)
theorem zbbH:∀ (l:yC) (k:Nat),k<l.length->(l.getD k default).Exp.toNat<=zJW l
 | [],k,h=>by simp at h
 | f::r,0,_=>by show f.Exp.toNat<=_; rw [zJW]; omega
 | f::r,k+1,h=>by
  have:=zbbH r k (by simpa using h)
  show (r.getD k default).Exp.toNat<=_;rw [zJW]; omega
theorem zbd7:∀ (l:yB) (k:Nat),k<l.length->zJW (l.getD k default).Fs<=zbP l
 | [],k,h=>by simp at h
 | f::r,0,_=>by show zJW f.Fs<=_; rw [zbP]; omega
 | f::r,k+1,h=>by
  have:=zbd7 r k (by simpa using h)
  show zJW (r.getD k default).Fs<=_;rw [zbP]; omega
section
variable (g:At->yE->Bool×(yB×Int)) (l:yE)
theorem zbjX (a:yB) (i k:Nat) (hi:i<a.length) (hk:k<(a.getD i default).Fs.length) (out b:yB) (hb:okA b) (N:Nat) (hN:((a.getD i default).Fs.getD k default).Exp=N) (hN':N<=1000000):
  ∀ (n j:Nat) (e:Int) (p:yB) (s:Int⊕yB),N<j+n->j<=N->GS s->RS s e p->∃ e' p',zyV g n a l out i p k b e j=(true,(a,l,out,(i:Int),p',(k:Int),e'))/\RS (sbd s (zw6 b (N - j))) e' p'
 | 0,j,e,p,s,h1,h2,_,_=>by omega
 | n+1,j,e,p,s,h1,h2,hs,hr=>by
  show ∃ e' p',(zyv g a l out i p k b e j).ev (λx y=>zyV g n x.1 x.2.1 x.2.2.1 x.2.2.2.1 x.2.2.2.2.1 x.2.2.2.2.2.1 x.2.2.2.2.2.2.1 x.2.2.2.2.2.2.2.1 x.2.2.2.2.2.2.2.2.1) (λr=>(true,r)) (false,default)=_/\_
  unfold zyv Wy.ix;simp only [Wy.ev_i,Wy.ev_k,Wy.ev_h,Wy.ev_bn,Wy.ev_d,tT,hi,hk,hN];by_cases hj:j<N
  ·have hk:N - j=(N - (j+1))+1:=by omega
   cases s with
   | inl x=>
    obtain ⟨rfl,hx⟩:=hr;have he:(e==(0:Int))=false:=by simp [hx]
    simp only [hj,decide_true,q7,he,q9];exact ⟨e,p,rfl,rfl,hx⟩
   | inr q=>
    obtain ⟨rfl,rfl⟩:=hr;have hp:okA p:=hs;simp only [hj,decide_true,q7,zbiH hp hb,zu (show j<4611686018427387904 by omega),show ((0:Int)==0)=true from rfl]
    rw [hk];exact zbjX a i _ hi (by assumption) out b hb N hN hN' n (j+1) (zvS p b).2 (zvS p b).1 (opS (zvS p b)) (by omega) (by omega) (zPC (z8J hp hb)) (zbj3 _)
  ·have hk:N - j=0:=by omega
   simp only [hj,decide_false,q9];rw [hk,zbec];exact ⟨e,p,rfl,hr⟩
theorem zbmP (a:yB) (hal:a.length<=1000000) (i:Nat) (hi:i<a.length) (hl:(a.getD i default).Fs.length<=1000000) (hg:AG g l (a.getD i default).Fs) (out:yB):
  ∀ (n k:Nat) (p:yB),(a.getD i default).Fs.length<k+n->k<=(a.getD i default).Fs.length->okA p->zz4 g n a l out i p k=(true,match zc7 (toA l) ((a.getD i default).Fs.drop k) p with
   | .inl e=>.inl e
   | .inr q=>.inr (a,l,out,(i:Int),q))
 | 0,k,p,h1,h2,_=>by omega
 | n+1,k,p,h1,h2,hp=>by
  show (zzs g a l out i p k).ev (λx y=>zz4 g n x.1 x.2.1 x.2.2.1 x.2.2.2.1 x.2.2.2.2.1 x.2.2.2.2.2.1) (λr=>(true,r)) (false,.inl default)=_
  unfold zzs Wy.ix At.et;by_cases hk:k<(a.getD i default).Fs.length
  ·obtain ⟨⟨hf,hG⟩,e0,e1⟩:=hg _ (zm hk);obtain ⟨N,hN⟩:∃ N:Nat,((a.getD i default).Fs.getD k default).Exp=(N:Int):=⟨_,(Int.toNat_of_nonneg e0).symm⟩;have hsz:=q18 (zbbH _ k hk) (zbd7 a i hi);rw [hN,qt] at hsz
   obtain ⟨e',p',h11,hrs⟩:=zbjX g l a i k hi hk out (ofS (zdy (toA l) ((a.getD i default).Fs.getD k default).At)).1 (zbig hG) N hN (by omega)
    ((a.length+l.length+out.length+(i:Int).toNat +p.length+(k:Int).toNat +(ofS (zdy (toA l) ((a.getD i default).Fs.getD k default).At)).1.length+(ofS (zdy (toA l) ((a.getD i default).Fs.getD k default).At)).2.toNat +Int.toNat (0:Int)+(1:Nat))+zbP a+zbP out+zbP p+zbP (ofS (zdy (toA l) ((a.getD i default).Fs.getD k default).At)).1) 0 _ p _ (by omega) (by omega) (zbd3 hG hp) (zbc5 hG p)
   rw [z9l,Nat.sub_zero] at hrs;rw [show ((0:Nat):Int)=(0:Int) from rfl] at h11
   rw [zbd hk,zAz,hN,qt];simp only [Wy.ev_i,Wy.ev_k,Wy.ev_h,Wy.ev_bn,Wy.ev_d,tT,hi,hk,At.eta,hf,zj1];simp only [qt] at h11;rw [h11];have hS:=hG;revert hrs hS;cases zdy (toA l) ((a.getD i default).Fs.getD k default).At with
   | inl x=>
    rintro ⟨rfl,hx⟩ _
    simp [hx,zEd]
   | inr b=>
    intro hrs hb;simp only [zb3] at hrs ⊢;have hq:=z5R (b:=b) hb N p hp;revert hrs hq;cases zw6 b N p with
    | inl x=>
     rintro ⟨rfl,hx⟩ _
     simp [hx,zEd]
    | inr q=>
     rintro ⟨rfl,rfl⟩ hq
     simp only [zb3,decide_true,qk,q7,q9,zu (show k<4611686018427387904 by omega)]
     exact zbmP a hal i hi hl hg out n (k+1) p' (by omega) (by omega) hq
  ·simp only [Wy.ev_i,Wy.ev_k,Wy.ev_h,Wy.ev_bn,Wy.ev_d,tT,hi,hk];rw [zb2 hk,zCp]
theorem zbmF (a:yB) (hal:a.length<=1000000) (hg:∀ t∈a,t.Fs.length<=1000000/\AG g l t.Fs) (hok:∀ t∈a,∀ p,okA p->GS (zc7 (toA l) t.Fs p)):
  ∀ (n i:Nat) (s:yB),a.length<i+n->i<=a.length->okA s->zzt g n a l s i=(true,zb0 (toA l) (a.drop i) s)
 | 0,i,s,h1,h2,_=>by omega
 | n+1,i,s,h1,h2,hs=>by
  show (zzP g a l s i).ev (λx y=>zzt g n x.1 x.2.1 x.2.2.1 x.2.2.2.1) (λr=>(true,r)) (false,.inl default)=_
  unfold zzP Wy.ix;by_cases hi:i<a.length
  ·have ht:=hg _ (zm hi);have hc:=zbcu (a.getD i default).Cf;have hsz:=szTs_get' a i hi;have h7:=zbmP g l a hal i hi ht.1 ht.2 s ((a.length+l.length+s.length+(i:Int).toNat +(zuN (a.getD i default).Cf).length+Int.toNat (0:Int)+(1:Nat))+zbP a+zbP s+zbP (zuN (a.getD i default).Cf)) 0 (zuN (a.getD i default).Cf) (by omega) (by omega) hc
   rw [show ((0:Nat):Int)=(0:Int) from rfl,qq] at h7
   simp only [qt] at h7;rw [zbd hi,zLx];simp only [Wy.ev_i,Wy.ev_k,Wy.ev_h,Wy.ev_bn,Wy.ev_d,tT,hi,zbgA _];rw [h7];have hS:=hok _ (zm hi) _ hc;revert hS;cases zc7 (toA l) (a.getD i default).Fs (zuN (a.getD i default).Cf) with
   | inl e=>intro _; rfl
   | inr p=>
    intro hp;have hp:okA p:=hp;simp only [zb3,isL,getR,q7,q9,zbi5 hs hp,zj1];have hG:=z0E hs hp;unfold opS;by_cases he:(zmR s p).2=0
    ·rw [if_pos he,qg he,zb3,zu (show i<4611686018427387904 by omega)]
     exact zbmF a hal hg hok n (i+1) _ (by omega) (by omega) hG.1
    ·rw [if_neg he,qd he]; rfl
  ·simp only [Wy.ev_i,Wy.ev_k,Wy.ev_h,Wy.ev_bn,Wy.ev_d,tT,hi];rw [zb2 hi,zPA]
theorem zbn3 (a:yB) (hal:a.length<=1000000) (hg:∀ t∈a,t.Fs.length<=1000000/\AG g l t.Fs) (hok:∀ t∈a,∀ p,okA p->GS (zc7 (toA l) t.Fs p)):ztC g a l=(true,ofS (zb0 (toA l) a [])):=by
 unfold ztC zKP;have h3:=zbmF g l a hal hg hok ((a.length+l.length+(0:Nat)+Int.toNat (0:Int)+(1:Nat))+zbP a+zbP []) 0 [] (by omega) (by omega) zjL
 rw [show ((0:Nat):Int)=(0:Int) from rfl,qq] at h3
 rw [Wy.fin_bn,h3];cases zb0 (toA l) a [] <;>rfl
end
section
variable (g:yB->yE->Bool×(yB×Int)) (l:yE)
theorem zbmH (x:At) (hl:x.Ag.length<=1000000) (hg:∀ a∈x.Ag,g a l=(true,ofS (zb0 (toA l) a []))/\GS (zb0 (toA l) a [])):
  ∀ (n i:Nat) (xs:yA),x.Ag.length<i+n->i<=x.Ag.length->xs.length<=i->zEA g n l i x xs=(true,match zjm (toA l) (x.Ag.drop i) with
   | .inl e=>.inl e
   | .inr ys=>.inr (l,x,xs++ys))
 | 0,i,xs,h1,h2,_=>by omega
 | n+1,i,xs,h1,h2,hx=>by
  have hreach:zD=70368744177664:=rfl;show (zES g l i x xs).ev (λx y=>zEA g n x.1 x.2.2.2.1 y.1 y.2.1) (λr=>(true,r)) (false,.inl default)=_
  unfold zES Wy.ix;by_cases hi:i<x.Ag.length
  ·obtain ⟨hf,hG⟩:=hg _ (zm hi);have hb:decide ((xs.length+1)*24<=zD)=true:=by simp only [qb]; omega
   rw [zbd hi,zk6];simp only [Wy.ev_i,Wy.ev_k,Wy.ev_h,Wy.ev_bn,Wy.ev_d,tT,hi,hf,zj1,qy,hb];revert hG;cases zb0 (toA l) (x.Ag.getD i default) [] with
   | inl e=>intro he; simp [ofS,show e≠0 from he,zEd]
   | inr b=>
    intro _;simp only [ofS,decide_true,qk,q9,zb3,zu (show i<4611686018427387904 by omega)]
    rw [zbmH x hl hg n (i+1) (xs++[b]) (by omega) (by omega) (by simp; omega)]
    cases zjm (toA l) (x.Ag.drop (i+1)) with
    | inl e=>rfl
    | inr ys=>simp [zb3]
  ·simp only [Wy.ev_i,Wy.ev_k,Wy.ev_h,Wy.ev_bn,Wy.ev_d,tT,hi];rw [zb2 hi,zpU]; simp
theorem zbjZ (x:At) (as_:yA) (hl:x.Items.length<=1000000) (hg:∀ w∈x.Items,g w.Ann l=(true,ofS (zb0 (toA l) w.Ann []))/\GS (zb0 (toA l) w.Ann [])):
  ∀ (n i:Nat) (xs:yD),x.Items.length<i+n->i<=x.Items.length->xs.length<=i->zDa g n l i x as_ xs=(true,match zfw (toA l) (x.Items.drop i) with
   | .inl e=>.inl e
   | .inr ys=>.inr (x,as_,xs++ys))
 | 0,i,xs,h1,h2,_=>by omega
 | n+1,i,xs,h1,h2,hx=>by
  have hreach:zD=70368744177664:=rfl;show (zCP g l i x as_ xs).ev (λx y=>zDa g n x.1 x.2.2.2.2.1 y.1 y.2.1 y.2.2.1) (λr=>(true,r)) (false,.inl default)=_
  unfold zCP Wy.ix;by_cases hi:i<x.Items.length
  ·obtain ⟨hf,hG⟩:=hg _ (zm hi);have hb:decide ((xs.length+1)*56<=zD)=true:=by simp only [qb]; omega
   rw [zbd hi,zFD];simp only [Wy.ev_i,Wy.ev_k,Wy.ev_h,Wy.ev_bn,Wy.ev_d,tT,hi,hf,zj1,qy,hb];revert hG;cases zb0 (toA l) (x.Items.getD i default).Ann [] with
   | inl e=>intro he; simp [ofS,show e≠0 from he,zEd]
   | inr b=>
    intro _;simp only [ofS,decide_true,qk,q9,zb3,zu (show i<4611686018427387904 by omega)]
    rw [zbjZ x as_ hl hg n (i+1) (xs++[WO.mk (x.Items.getD i default).Value b]) (by omega) (by omega) (by simp; omega)]
    cases zfw (toA l) (x.Items.drop (i+1)) with
    | inl e=>rfl
    | inr ys=>simp [zb3]
  ·simp only [Wy.ev_i,Wy.ev_k,Wy.ev_h,Wy.ev_bn,Wy.ev_d,tT,hi];rw [zb2 hi,zCk]; simp
theorem zbjc {x:At} (h:zoX x=true) (hk:x.Kind=1\/x.Kind=2\/x.Kind=3):x.Items=[]:=by
 cases zTN.1 h <;>simp_all
theorem zbkx (hto:okB l) (x:At) (h:XG g l x):zAo g x l=(true,ofS (zdy (toA l) x)):=by
 unfold zAo zSs Wy.ix At.et;have h8:=zbmH g l x h.lens.1 h.ga (l.length+Int.toNat (0:Int)+x.Ag.length+x.Items.length+(0:Nat)+(1:Nat)) 0 [] (by omega) (by omega) (by simp)
 rw [show ((0:Nat):Int)=(0:Int) from rfl,qq] at h8
 have h16:=λxs:yA=>zbjZ g l x xs (by have:=h.lens.2; omega) h.gi (l.length+Int.toNat (0:Int)+x.Ag.length+x.Items.length+xs.length+(0:Nat)+(1:Nat)) 0 [] (by omega) (by omega) (by simp)
 simp only [show ((0:Nat):Int)=(0:Int) from rfl,qq,q10] at h16
 have b0:=zfi x.Kind 0;have b1:=zfi x.Kind 1;have b2:=zfi x.Kind 2;have b3:=zfi x.Kind 3;rw [At.eta,zPg];simp only [Wy.fin_i,Wy.fin_bn,Wy.fin_k,q7,h8,q10];by_cases hk0:x.Kind=0
 ·rw [b0,qg hk0,if_pos hk0];obtain ⟨b,q,h1,h2⟩:=zbjH hto x.Row;simp only [q7,h1];rcases h2 with ⟨rfl,rfl⟩ | ⟨rfl,h2⟩
  ·rfl
  ·rw [h2]; simp only [q9,(zbht x.Row).2]; rfl
 ·rw [b0,qd hk0,if_neg hk0,q9];have hA:=h.sa;have hlen:=z9X h.va;revert hA;cases zjm (toA l) x.Ag with
  | inl e=>intro _; rfl
  | inr xs=>
   intro hxs;have hxl:xs.length=x.Ag.length/\∀ a∈xs,okA a:=hxs;have o0:=zHu hxl.2 0;have o1:=zHu hxl.2 1;simp only [isL,getR,q9,zb3,At.eta,h16];by_cases hk:x.Kind=1\/x.Kind=2\/x.Kind=3
   ·rw [zbjc h.va hk,zCk];simp only [q7,q9,isL,getR];rcases hk with hk1 | hk2 | hk3
    ·have:=hlen.1 hk1;rw [b1,qg hk1,if_pos hk1];simp only [q7,show Int.toNat (0:Int)=0 from rfl,show Int.toNat (1:Int)=1 from rfl,zbgu o0 o1,zDL (z8W o0 o1).2]
     simp [hxl.1,this]
    ·have:=hlen.2 (.inl hk2);have n1:¬ x.Kind=1:=by omega
     rw [b1,qd n1,if_neg n1,q9,b2,qg hk2,if_pos hk2];simp only [q7,show Int.toNat (0:Int)=0 from rfl,zbgp o0,zDL (z8N o0).2]
     simp [hxl.1,this]
    ·have:=hlen.2 (.inr hk3);have n1:¬ x.Kind=1:=by omega
     have n2:¬ x.Kind=2:=by omega
     rw [b1,qd n1,if_neg n1,q9,b2,qd n2,if_neg n2,q9,b3,qg hk3,if_pos hk3];simp only [q7,show Int.toNat (0:Int)=0 from rfl,zbeo o0,zDL (z8H o0).2]
     simp [hxl.1,this]
   ·have n1:¬ x.Kind=1:=λe=>hk (.inl e)
    have n2:¬ x.Kind=2:=λe=>hk (.inr (.inl e))
    have n3:¬ x.Kind=3:=λe=>hk (.inr (.inr e))
    rw [if_neg n1,if_neg n2,if_neg n3];have hI:=h.si;revert hI;cases zfw (toA l) x.Items with
    | inl e=>intro _; rfl
    | inr is=>
     intro his;have ht:=zbiL (f:=x.Func) (o:=x.Op) (b:=x.Bd) (by have:=h.lens.2; omega) his
     simp only [q7,q9,isL,getR,b1,b2,b3,qd n1,qd n2,qd n3,ht,zb3];have hw:=zng h.wf;have hl:is.length=x.Items.length/\∀ w∈is,okA w.Ann/\∃ v∈x.Items,v.Value=w.Value:=his
     rw [zDL (zXS (by have:=h.lens.2; omega) (λw hw'=>⟨(hl.2 w hw').1,by
      obtain ⟨v,hv,e⟩:=(hl.2 w hw').2;rw [<- e]; exact (zga hw.2.1.1 v hv).1⟩) hw.2.2.2.2.2.1 hw.2.2.2.2.2.2 hw.2.2.1).2]
end
theorem z2J:∀ {l:yA} {a:yB},a∈l->zeo a<=zqV l
 | [],_,h=>by cases h
 | x::r,a,h=>by
  rw [zXU];rcases q8.1 h with rfl | h
  ·omega
  ·have:=z2J h; omega
theorem zYU:∀ {l:yD} {w:Wd},w∈l->zeo w.Ann<=zlh l
 | [],_,h=>by cases h
 | x::r,a,h=>by
  rw [zJY];rcases q8.1 h with rfl | h
  ·omega
  ·have:=zYU h; omega
theorem zSi:∀ {l:yC} {f:Fc},f∈l->zGY f.At<=zhH l
 | [],_,h=>by cases h
 | x::r,a,h=>by
  rw [zPM];rcases q8.1 h with rfl | h
  ·omega
  ·have:=zSi h; omega
theorem z43:∀ {l:yB} {t:Term},t∈l->zhH t.Fs<=zeo l
 | [],_,h=>by cases h
 | x::r,a,h=>by
  rw [zQu];rcases q8.1 h with rfl | h
  ·omega
  ·have:=z43 h; omega
theorem zZc:∀ {l:yD},(∀ w∈l,w.Ann≠[])->l.length<=zlh l
 | [],_=>by simp
 | x::r,h=>by
  rw [zJY];have:=zZc (l:=r) λw hw=>h w (by simp [hw])
  have h1:1<=zeo x.Ann:=by
   have:=h x (by simp)
   cases hx:x.Ann with
   | nil=>exact absurd hx this
   | cons t r=>rw [zQu]; omega
  simp only [qc];omega
mutual
def zxt:At->Prop
 | ⟨_,_,a,_,i,_,_⟩=>i.length<20/\zS6 a/\zL3 i
def zDE:yC->Prop
 | []=>True
 | ⟨x,_⟩::r=>zxt x/\zDE r
def zbv:yB->Prop
 | []=>True
 | ⟨_,fs⟩::r=>zDE fs/\zbv r
def zS6:yA->Prop
 | []=>True
 | a::r=>zbv a/\zS6 r
def zL3:yD->Prop
 | []=>True
 | ⟨_,a⟩::r=>zbv a/\zL3 r
end
theorem zwD (x:At):zxt x↔x.Items.length<20/\zS6 x.Ag/\zL3 x.Items:=by cases x; rw [zxt]
theorem ztb:∀ {l:yC},zDE l↔∀ f∈l,zxt f.At
 | []=>by rw [zDE]; simp
 | ⟨x,e⟩::r=>by rw [zDE,ztb (l:=r)]; simp
theorem zDN:∀ {l:yB},zbv l↔∀ t∈l,zDE t.Fs
 | []=>by rw [zbv]; simp
 | ⟨x,e⟩::r=>by rw [zbv,zDN (l:=r)]; simp
theorem zua:∀ {l:yA},zS6 l↔∀ a∈l,zbv a
 | []=>by rw [zS6]; simp
 | a::r=>by rw [zS6,zua (l:=r)]; simp
theorem zqy:∀ {l:yD},zL3 l↔∀ w∈l,zbv w.Ann
 | []=>by rw [zL3]; simp
 | ⟨x,e⟩::r=>by rw [zL3,zqy (l:=r)]; simp
theorem zZX {m:Nat} {a:yB} (h:zbi (m+1) a=true):zfN a=true/\∀ t∈a,t.Fs.length<=64/\∀ f∈t.Fs,(1<=f.Exp/\f.Exp<=64)/\f.At.Items.length<=1024/\zdj (zbi m) f.At=true:=by
 have hw:=zH7 h;refine ⟨hw,λt ht=> ?_⟩
 obtain ⟨l1,l2⟩:=(ztG hw).2.2.2 t ht;refine ⟨l1,λf hf=> ?_⟩
 obtain ⟨⟨e1,_⟩,hv⟩:=zqo (zwm h ht).2 hf;exact ⟨⟨e1,(l2 f hf).1⟩,(l2 f hf).2,hv⟩
theorem z2x:∀ (m:Nat) (a:yB),zbi m a=true->zbi (m+1) a=true
 | 0,_,h=>by cases h
 | m+1,a,h=>by
  have h':zvm (zdj (zbi m)) a=true:=h;obtain ⟨h1,h2,h3⟩:=zG3.1 h';refine (zG3 (vat:=zdj (zbi (m+1)))).2 ⟨h1,h2,λt ht=>⟨(h3 t ht).1,(h3 t ht).2.1,λf hf=>⟨((h3 t ht).2.2 f hf).1, ?_⟩⟩⟩
  exact zcZ.2 ((zcZ.1 ((h3 t ht).2.2 f hf).2).imp (z2x m))
theorem zz6:∀ {m:Nat} {a:yB},zbi m a=true->zx a=true:=by
 intro m a h
 have key:∀ k,zbi (m+k) a=true:=λk=>by
  induction k with
  | zero=>exact h
  | succ k ih=>exact z2x _ _ ih
 exact zbbW (key 9) (by omega)
theorem zbcD {m:Nat} {x:At} (h:zdj (zbi m) x=true) (hm:m<=99):zoX x=true:=by
 refine zTN.2 ((zcZ.1 h).imp λa ha=> ?_)
 exact zz6 ha
theorem zQi {V:yB->Bool} {x:At} (h:zdj V x=true):(∀ a∈x.Ag,V a=true)/\∀ w∈x.Items,V w.Ann=true/\w.Ann≠[]:=by
 constructor
 ·cases zcZ.1 h <;>simp_all
 ·cases zcZ.1 h <;>simp_all
theorem zTE:∀ (m:Nat) (a:yB),zbi m a=true->zeo a<=38->zbv a
 | 0,_,h,_=>by cases h
 | m+1,a,h,hs=>by
  obtain ⟨_,w2⟩:=zZX h;refine zDN.2 λt ht=>ztb.2 λf hf=>(zwD _).2 ?_
  have hv:=((w2 t ht).2 f hf).2.2;have h1:=zSi hf;have h2:=z43 ht;have h3:=z6R f.At;obtain ⟨hargs,hitems⟩:=zQi hv;refine ⟨by have:=zZc λw hw=>(hitems w hw).2; omega,zua.2 λb hb=>zTE m b (hargs b hb) (by have:=z2J hb; omega),zqy.2 λw hw=>zTE m w.Ann (hitems w hw).1 (by have:=zYU hw; omega)⟩
theorem z0M {l:yE} (hl:okB l):∀ n,
  (∀ m a,zbi m a=true->m<=99->zgz a->zbv a->2*m<=n->zlt n a l=(true,ofS (zb0 (toA l) a []))/\GS (zb0 (toA l) a []))/\
  (∀ m x,zdj (zbi m) x=true->m<=99->zgn x->x.Items.length<=1024->zxt x->2*m+1<=n->zil n x l=(true,ofS (zdy (toA l) x))/\GS (zdy (toA l) x))
 | 0=>by
  refine ⟨λm a h _ _ _ hm=> ?_,λm x _ _ _ _ _ hm=>by omega⟩
  have:m=0:=by omega
  subst this; cases h
 | n+1=>by
  obtain ⟨h1,h2⟩:=z0M hl n;have ht:okT (toA l):=zbb3 hl.2;refine ⟨λm a h h99 hw hs hm=> ?_,λm x h h99 hw hi hs hm=> ?_⟩
  ·cases m with
   | zero=>cases h
   | succ m=>
    obtain ⟨w1,w2⟩:=zZX h;obtain ⟨a1,a2,a3,a4⟩:=ztG w1;have hwt:=λt (ht:t∈a)=>ztI (zqG hw t ht)
    have hwf:=λt (ht:t∈a) f (hf:f∈t.Fs)=>(znH (zlT (hwt t ht).2.1 f hf)).1
    have hA:∀ t∈a,∀ f∈t.Fs,(zil n f.At l=(true,ofS (zdy (toA l) f.At))/\GS (zdy (toA l) f.At)):=λt ht f hf=>
     h2 m f.At ((w2 t ht).2 f hf).2.2 (by omega) (hwf t ht f hf) ((w2 t ht).2 f hf).2.1 (ztb.1 (zDN.1 hs t ht) f hf) (by omega)
    have hE:=λt (ht:t∈a) f (hf:f∈t.Fs)=>((w2 t ht).2 f hf).1
    have hok:∀ t∈a,∀ p,okA p->GS (zc7 (toA l) t.Fs p):=λt ht' p hp=>zFm ht t.Fs 9 (λf hf=>⟨hwf t ht' f hf,znp ((w2 t ht').2 f hf).2.2 ((w2 t ht').2 f hf).2.1⟩) p hp
    have hG:GS (zb0 (toA l) a []):=zNL ht a 9 hw (λt ht f hf=>znp ((w2 t ht).2 f hf).2.2 ((w2 t ht).2 f hf).2.1) [] zjL
    refine ⟨?_,hG⟩
    ·rw [zOA];exact zbnZ _ l a (by omega) (λt ht=>⟨by have:=(w2 t ht).1; omega,λf hf=>⟨⟨(hA t ht f hf).1,(hA t ht f hf).2⟩,by have:=(hE t ht f hf).1; omega,by have:=(hE t ht f hf).2; omega⟩⟩) hok
  ·have hf:=znp h hi;have hw':=zng hw;have hv:=zbcD h h99;obtain ⟨h20,s1,s2⟩:=(zwD x).1 hs;obtain ⟨hargs,hitems⟩:=zQi h;have ga:=λa (ha:a∈x.Ag)=>h1 m a (hargs a ha) h99 (zhD hw'.1.1 a ha).1 (zua.1 s1 a ha) (by omega)
   have gi:=λw (hw:w∈x.Items)=>h1 m w.Ann (hitems w hw).1 h99 (zga hw'.2.1.1 w hw).2.1 (zqy.1 s2 w hw) (by omega)
   have sa:=zPV ht x.Ag 9 (λa ha=>(zhD hw'.1.1 a ha).1) hf.2.1
   have si:=zLP ht x.Items 9 (λw hw=>(zga hw'.2.1.1 w hw).2.1) λw hw=>(hf.2.2 w hw).2
   refine ⟨?_,zZb ht x 9 hw hf⟩
   ·rw [zIU];exact zblg _ l hl x ⟨hv,⟨hf.1.1,h20⟩,λa ha=>⟨(ga a ha).1,(ga a ha).2⟩,λw hw=>⟨(gi w hw).1,(gi w hw).2⟩,sa,si,hw⟩
theorem zbcz {l:yE} (hl:okB l):∀ n,
  (∀ m a,zbi m a=true->m<=99->zgz a->zbv a->2*m<=n->zti n a l=(true,ofS (zb0 (toA l) a []))/\GS (zb0 (toA l) a []))/\
  (∀ m x,zdj (zbi m) x=true->m<=99->zgn x->x.Items.length<=1024->zxt x->2*m+1<=n->zAh n x l=(true,ofS (zdy (toA l) x))/\GS (zdy (toA l) x))
 | 0=>by
  refine ⟨λm a h _ _ _ hm=> ?_,λm x _ _ _ _ _ hm=>by omega⟩
  have:m=0:=by omega
  subst this; cases h
 | n+1=>by
  obtain ⟨h1,h2⟩:=zbcz hl n;have ht:okT (toA l):=zbb3 hl.2;refine ⟨λm a h h99 hw hs hm=> ?_,λm x h h99 hw hi hs hm=> ?_⟩
  ·cases m with
   | zero=>cases h
   | succ m=>
    obtain ⟨w1,w2⟩:=zZX h;obtain ⟨a1,a2,a3,a4⟩:=ztG w1;have hwt:=λt (ht:t∈a)=>ztI (zqG hw t ht)
    have hwf:=λt (ht:t∈a) f (hf:f∈t.Fs)=>(znH (zlT (hwt t ht).2.1 f hf)).1
    have hA:∀ t∈a,∀ f∈t.Fs,(zAh n f.At l=(true,ofS (zdy (toA l) f.At))/\GS (zdy (toA l) f.At)):=λt ht f hf=>
     h2 m f.At ((w2 t ht).2 f hf).2.2 (by omega) (hwf t ht f hf) ((w2 t ht).2 f hf).2.1 (ztb.1 (zDN.1 hs t ht) f hf) (by omega)
    have hE:=λt (ht:t∈a) f (hf:f∈t.Fs)=>((w2 t ht).2 f hf).1
    have hok:∀ t∈a,∀ p,okA p->GS (zc7 (toA l) t.Fs p):=λt ht' p hp=>zFm ht t.Fs 9 (λf hf=>⟨hwf t ht' f hf,znp ((w2 t ht').2 f hf).2.2 ((w2 t ht').2 f hf).2.1⟩) p hp
    have hG:GS (zb0 (toA l) a []):=zNL ht a 9 hw (λt ht f hf=>znp ((w2 t ht).2 f hf).2.2 ((w2 t ht).2 f hf).2.1) [] zjL
    refine ⟨?_,hG⟩
    ·rw [zX1];exact zbn3 _ l a (by omega) (λt ht=>⟨by have:=(w2 t ht).1; omega,λf hf=>⟨⟨(hA t ht f hf).1,(hA t ht f hf).2⟩,by have:=(hE t ht f hf).1; omega,by have:=(hE t ht f hf).2; omega⟩⟩) hok
  ·have hf:=znp h hi;have hw':=zng hw;have hv:=zbcD h h99;obtain ⟨h20,s1,s2⟩:=(zwD x).1 hs;obtain ⟨hargs,hitems⟩:=zQi h;have ga:=λa (ha:a∈x.Ag)=>h1 m a (hargs a ha) h99 (zhD hw'.1.1 a ha).1 (zua.1 s1 a ha) (by omega)
   have gi:=λw (hw:w∈x.Items)=>h1 m w.Ann (hitems w hw).1 h99 (zga hw'.2.1.1 w hw).2.1 (zqy.1 s2 w hw) (by omega)
   have sa:=zPV ht x.Ag 9 (λa ha=>(zhD hw'.1.1 a ha).1) hf.2.1
   have si:=zLP ht x.Items 9 (λw hw=>(zga hw'.2.1.1 w hw).2.1) λw hw=>(hf.2.2 w hw).2
   refine ⟨?_,zZb ht x 9 hw hf⟩
   ·rw [z41];exact zbkx _ l hl x ⟨hv,⟨hf.1.1,h20⟩,λa ha=>⟨(ga a ha).1,(ga a ha).2⟩,λw hw=>⟨(gi w hw).1,(gi w hw).2⟩,sa,si,hw⟩
def zhO (a:yB) (l:yE):yB×Int:=opR (zx a&&l.all λb=>zx b.To) (ofS (zb0 (toA l) a []))
theorem zbnH {l:yE} (h:okB l):zcn l=(true, !l.all λb=>zx b.To):=by
 unfold zcn zh5;have:zdN l=IG (λ(_:Unit) x=>zio x) (l.length+(Int.ofNat l.length).toNat +Int.toNat (0:Int)+(1:Nat)) () l:=rfl
 rw [zk5 (P:=λb=> !zx b.To) (this.trans (zLF _ _ _ _ _ (by have:=h.1; omega) (λx hx=>by
  unfold zio zxM;rw [Wy.fin_bn,(h.2 x hx).valid]; rfl) (by omega)))]
 simp [q21]
theorem zbjV {a:yB} {l:yE} (h:okB l):∀ (n i:Nat),l.length<i+n->i<=l.length->zyK n a l i=(true,if ((l.drop i).all λb=>zx b.To)=true then .inr (a,l) else .inl 1)
 | 0,i,h1,h2=>by omega
 | n+1,i,h1,h2=>by
  have hlen:=h.1;show (zyu a l i).ev (λx y=>zyK n x.1 x.2.1 x.2.2.1) (λr=>(true,r)) (false,.inl default)=_
  unfold zyu Wy.ix;by_cases hi:i<l.length
  ·have hb:=h.2 _ (zm hi);rw [zbd hi,q28];simp only [Wy.ev_i,Wy.ev_k,Wy.ev_h,Wy.ev_bn,Wy.ev_d,tT,hi,hb.rvalid];cases zx (l.getD i default).To with
   | false=>rfl
   | true=>
    simp only [qk,q9,q1j,zu (show i<4611686018427387904 by omega)]
    exact zbjV h n (i+1) (by omega) (by omega)
  ·simp only [Wy.ev_i,Wy.ev_k,Wy.ev_h,Wy.ev_bn,Wy.ev_d,tT,hi];rw [zb2 hi]; rfl
theorem zRO {a:yB} {l:yE} (oa:okA a) (ha:zx a=true->zbv a) (h:okB l):zfZ a l=(true,zhO a l):=by
 have key:zx a=true->zzS a l=(true,ofS (zb0 (toA l) a [])):=λhv=>((z0M h 1000).1 9 a (zHx hv (qn 9)) (by omega) oa.2.1 (ha hv) (by omega)).1
 unfold zfZ zA7 zhO;simp only [Wy.fin_i,Wy.fin_bn,Wy.fin_k,oa.valid,q7,zbnH h];cases hv:zx a with
 | false=>rfl
 | true=>
  cases (l.all λb=>zx b.To) with
  | false=>rfl
  | true=>
   simp only [qk,q9,key hv,q7];rfl
theorem z8i {a:yB} {l:yE} (oa:okA a) (ha:zx a=true->zbv a) (h:okB l):zmV a l=(true,zhO a l):=by
 have key:zx a=true->zJK a l=(true,ofS (zb0 (toA l) a [])):=λhv=>((zbcz h 1000).1 9 a (zHx hv (qn 9)) (by omega) oa.2.1 (ha hv) (by omega)).1
 unfold zmV zIz zhO;have h4:=zbjV (a:=a) h (a.length+l.length+Int.toNat (0:Int)+(1:Nat)) 0 (by omega) (by omega)
 rw [show ((0:Nat):Int)=(0:Int) from rfl,qq] at h4
 simp only [Wy.fin_i,Wy.fin_bn,Wy.fin_k,oa.rvalid,q7,h4];cases hv:zx a with
 | false=>rfl
 | true=>
  cases (l.all λb=>zx b.To) with
  | false=>rfl
  | true=>
   simp only [if_true,isL,getR,qk,q9,key hv,q7];rfl
theorem zVD {a:yB} {l:yE} (oa:okA a) (ha:zx a=true->zbv a) (h:okB l):zfZ a l=(true,zhO a l)/\zmV a l=(true,zhO a l):=⟨zRO oa ha h,z8i oa ha h⟩
theorem zbfy {a:yB} {l:yE} (oa:okA a) (ha:zx a=true->zbv a) (h:okB l):okR (zhO a l):=zSm λhv=>by
 rw [qa] at hv;have hG:=((z0M h 1000).1 9 a (zHx hv.1 (qn 9)) (by omega) oa.2.1 (ha hv.1) (by omega)).2
 revert hG;cases zb0 (toA l) a [] with
 | inl e=>exact λ_=>⟨zjL,.inr rfl⟩
 | inr b=>exact λhb=>⟨hb,.inl rfl⟩
end Go.Proofs.YtoknknbmfmddbaaGreatDoor
end
