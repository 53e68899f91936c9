/- Texts of this claim, joined (the program, its functions in plain words, and what they compute). -/
import Derived.Test.YtoknknbmfmddbaaGreatDoorGC9
set_option autoImplicit false
set_option linter.unusedVariables false
set_option linter.unusedSectionVars false
set_option linter.unusedSimpArgs false
set_option maxRecDepth 1000000
set_option maxHeartbeats 0
/- The operations of both sides. -/
noncomputable section
namespace Go.Proofs.YtoknknbmfmddbaaGreatDoor
open Go Go.Ab
theorem zPt {B:Nat}:∀ l:yC,(∀ f∈l,zfa f.At<=B)->zbI l<=l.length*B
 | [],_=>by rw [ziD]; simp
 | f::r,h=>by
  have h1:=h f (by simp)
  have h2:=zPt r λg hg=>h g (by simp [hg])
  rw [zc2,qf,Nat.add_mul]; omega
theorem z29 {B:Nat}:∀ l:yB,(∀ t∈l,1+t.Fs.length+zbI t.Fs<=B)->zN l<=l.length*B
 | [],_=>by rw [zwf]; simp
 | f::r,h=>by
  have h1:=h f (by simp)
  have h2:=z29 r λg hg=>h g (by simp [hg])
  rw [zfQ,qf,Nat.add_mul]; omega
theorem z2d {l:yB} (hl:l.length<=1000000) (h:∀ t∈l,GT t):zp 10 l/\zN l<=4611686018427387904:=by
 refine ⟨⟨hl,λt ht=>(h t ht).fine⟩, ?_⟩
 refine Nat.le_trans (z29 (B:=4195330000) l λt ht=> ?_) (by have:=Nat.mul_le_mul hl (Nat.le_refl 4195330000); omega)
 have hg:=h t ht;have h1:=zPt (B:=4195328) t.Fs λf hf=>zZz (hg.2.2 f hf).1.1 (hg.2.2 f hf).1.2.2
 have:=Nat.mul_le_mul hg.2.1 (Nat.le_refl 4195328);have:=hg.2.1;omega
theorem z78 {t:Term} (ht:GT t) {l:yB} (hs:Srs l) (h:∀ x∈l,GT x):∀ x∈zi2 t l,GT x:=λx hx=>by
 have hc:=zbcf ht.1 (λy hy=>(h y hy).1) x hx
 rcases (zPo hs).1 hx with ⟨h1,_⟩ | ⟨h1,_⟩
 ·exact h x h1
 ·exact ⟨hc,by rw [h1]; exact ht.2⟩
theorem zKA:∀ (b a:yB),Srs a->(∀ x∈a,GT x)->(∀ x∈b,GT x)->∀ x∈zeO a b,GT x
 | [],_,_,ha,_=>ha
 | t::r,a,hs,ha,hb=>zKA r (zi2 t a) (zCf hs) (z78 (hb t (by simp)) hs ha) λx hx=>hb x (by simp [hx])
theorem zRV {x y:Term} (hx:VT x) (hy:VT y):GT (zlS x y):=by
 obtain ⟨gx,sx,lx,ex⟩:=hx;obtain ⟨gy,sy,ly,ey⟩:=hy;refine ⟨(z2S gx.1 gy.1).1,by have:=zJZ x.Fs y.Fs; show (zbK x.Fs y.Fs).length<=1000; omega,λf hf=> ?_⟩
 obtain ⟨g,hg,e⟩:=ztK hf;have hb:=zKw (B:=64) (λz hz=>⟨(gx.2.2 z hz).2.1,(ex z hz).2⟩) (λz hz=>⟨(gy.2.2 z hz).2.1,(ey z hz).2⟩) hf
 have hv:(zd3 (zbA 9) g.At=true/\zgB g.At/\g.At.Items.length<=1024):=by
  rcases hg with hg | hg
  ·exact (gx.2.2 g hg).1
  ·exact (gy.2.2 g hg).1
 exact ⟨by rw [e]; exact hv,hb.1,by omega⟩
theorem z0T {a b:yB} (ha:∀ t∈a,VT t) (hb:∀ t∈b,VT t):∀ t∈zf3 a b,GT t:=λt ht=>by
 obtain ⟨x,hx,y,hy,rfl⟩:=z5G ht;exact zRV (ha x hx) (hb y hy)
theorem zbgj {x y:Term} (hx:VT x) (hy:VT y):znU x.Fs y.Fs=(true,zbK x.Fs y.Fs):=by
 obtain ⟨gx,sx,lx,ex⟩:=hx;obtain ⟨gy,sy,ly,ey⟩:=hy;exact zbfo (d:=9) (by omega) _ _ (by omega) (λf hf=>⟨zvZ (gx.2.2 f hf).1.1 (gx.2.2 f hf).1.2.2,by have:=(gx.2.2 f hf).2; omega⟩) λf hf=>by have:=(gy.2.2 f hf).2; omega
theorem zbhO (a b:yB) (i:Int) (x:Term) (hx:VT x) (hb:∀ t∈b,VT t) (hbl:b.length<=512) (terms:yB) (hl:terms.length<=1000000) (n:Nat) (hn:b.length<n):
  zIy n b a a.length i b b.length 0 terms x=(true,(b,a,(a.length:Int),i,terms++b.map (zlS x))):=by
 have hreach:zA=70368744177664:=rfl
 have:=zcs (W:=zz0) (z:=default) b.length (λj=>(b,(),(),a,(a.length:Int),i,b,(b.length:Int),(j:Int),())) (λj=>(terms++(b.take j).map (zlS x),x,())) (λ_=>true) default (b,a,(a.length:Int),i,terms++b.map (zlS x))
  (λj hj H K D=>by
   show (zoJ b a a.length i b b.length j (terms++(b.take j).map (zlS x)) x).ev H K D=_;unfold zoJ;have hy:=hb _ (zn hj);have hr:decide (((terms++(b.take j).map (zlS x)).length+1)*32<=zA)=true:=by simp only [qe,qg,List.length_map,List.length_take]; omega
   simp only [Wy.ev_i,Wy.ev_k,Wy.ev_h,Wy.ev_bn,Wy.ev_d,tT,hj,(z8U hx.1.1 hy.1.1).1,zbgj hx hy,List.length_singleton,hr];rw [zw (by omega),zj7 hj,List.map_append, <- List.append_assoc]
   rfl)
  (λH K D=>by
   show (zoJ b a a.length i b b.length b.length (terms++(b.take b.length).map (zlS x)) x).ev H K D=_;unfold zoJ;simp only [Wy.ev_i,Wy.ev_k,tT,Nat.lt_irrefl,List.take_length]) n hn
 rw [show zdK (λ_=>true) b.length 0=true from zdY.2 λ_ _ _=>rfl] at this
 simp only [List.take_zero,List.map_nil,List.append_nil] at this;exact this
theorem zbid (a b:yB) (ha:∀ t∈a,VT t) (hb:∀ t∈b,VT t) (hal:a.length<=512) (hbl:b.length<=512) (n:Nat) (hn:a.length<n):
  zz1 n b a a.length 0 []=(true,zf3 a b):=by
 have:=zcs (W:=zAv) (z:=default) a.length (λi=>(b,(),a,(a.length:Int),(i:Int),())) (λi=>(zf3 (a.take i) b,())) (λ_=>true) default (zf3 a b)
  (λi hi H K D=>by
   show (zoH b a a.length i (zf3 (a.take i) b)).ev H K D=_;unfold zoH;have hx:=ha _ (zn hi)
   have hlen:(zf3 (a.take i) b).length<=1000000:=by
    rw [zV1,List.length_take];have:=Nat.mul_le_mul (show min i a.length<=512 by omega) hbl
    omega
   simp only [Wy.ev_i,Wy.ev_k,Wy.ev_h,Wy.ev_bn,Wy.ev_d,tT,hi];rw [zbhO a b i _ hx hb hbl _ hlen _ (by omega)]
   simp only [cond_true];rw [zw (by omega),zj7 hi]
   have e:zf3 (a.take i++[a.getD i default]) b=zf3 (a.take i) b++b.map (zlS (a.getD i default)):=by
    unfold zf3; rw [List.flatMap_append]; simp
   rw [e])
  (λH K D=>by
   show (zoH b a a.length a.length (zf3 (a.take a.length) b)).ev H K D=_;unfold zoH;simp only [Wy.ev_i,Wy.ev_k,tT,Nat.lt_irrefl,List.take_length]) n hn
 rw [show zdK (λ_=>true) a.length 0=true from zdY.2 λ_ _ _=>rfl] at this
 exact this
theorem szTs_get' (a:yB) (i:Nat) (h:i<a.length):(a.getD i default).Fs.length<=zd5 a:=zKo a i h
theorem zbd5 (a b:yB) (i:Int) (k:Nat) (hk:k<b.length) (out:yB) (c:Int) (x:Term) (hx:VT x) (hy:VT (b.getD k default)) (n:Nat) (hn:(b.getD k default).Fs.length<n):
  zIG n a b i k 0 out c x.Fs=(true,(a,b,i,(k:Int),out,c,zbK x.Fs (b.getD k default).Fs)):=by
 obtain ⟨gx,sx,lx,ex⟩:=hx;obtain ⟨gy0,sy,ly,ey⟩:=hy;have gy:∀ f∈(b.getD k default).Fs,GF f:=gy0.2.2;have sy:Srf (b.getD k default).Fs:=sy;clear gy0;generalize hF:(b.getD k default).Fs=F at *
 have key:∀ j,j<F.length->zHE (F.getD j default) (zbK x.Fs (F.take j))=zbK x.Fs (F.take (j+1)):=λj hj=>by
  have e1:=zSt (F.take j) x.Fs (sy.sublist (List.take_sublist _ _)) (λz hz=>(ex z hz).1) λz hz=>(ey z (List.mem_of_mem_take hz)).1
  have e2:=zSt (F.take (j+1)) x.Fs (sy.sublist (List.take_sublist _ _)) (λz hz=>(ex z hz).1) λz hz=>(ey z (List.mem_of_mem_take hz)).1
  rw [<- e1, <- e2,zj7 hj,List.foldl_append]; rfl
 have:=zcs (W:=zIu) (z:=default) F.length (λj=>(a,b,(),i,(k:Int),(),(j:Int),())) (λj=>(out,(c,zbK x.Fs (F.take j),()),())) (λ_=>true) default (a,b,i,(k:Int),out,c,zbK x.Fs F)
  (λj hj H K D=>by
   show (zoY a b i k j out c (zbK x.Fs (F.take j))).ev H K D=_;unfold zoY;have hlen:=zJZ x.Fs (F.take j);rw [List.length_take] at hlen;have hex:=λz (hz:z∈zbK x.Fs (F.take j))=>zKw (B:=64) (λz hz=>⟨(gx.2.2 z hz).2.1,(ex z hz).2⟩) (λz hz=>⟨(gy z (List.mem_of_mem_take hz)).2.1,(ey z (List.mem_of_mem_take hz)).2⟩) hz
   have hfine:∀ z∈zbK x.Fs (F.take j),zc7 (zp 9) z.At:=λz hz=>by
    obtain ⟨w,hw,e⟩:=ztK hz;rw [e];rcases hw with hw | hw
    ·exact zvZ (gx.2.2 w hw).1.1 (gx.2.2 w hw).1.2.2
    ·exact zvZ (gy w (List.mem_of_mem_take hw)).1.1 (gy w (List.mem_of_mem_take hw)).1.2.2
   have hm:=zn hj;have e1:decide ((k:Int)<Int.ofNat b.length)=true:=by simp [hk]
   have e2:decide ((j:Int)<Int.ofNat F.length)=true:=by simp [hj]
   have efx:(FO.mk (F.getD j default).At (F.getD j default).Exp:Fc)=F.getD j default:=rfl;simp only [At.eta,Wy.ev_i,Wy.ev_k,Wy.ev_h,Wy.ev_bn,Wy.ev_d,zep,Bool.and_self,cond_true,Int.toNat_natCast,hF,e1,e2,efx];rw [zbfW (d:=9) _ _ (by omega) hfine (by omega) (λz hz=>by have:=hex z hz; omega) (by have:=(gy _ hm).2; omega),cond_true,zw (by omega),key j hj])
  (λH K D=>by
   show (zoY a b i k F.length out c (zbK x.Fs (F.take F.length))).ev H K D=_;unfold zoY;have e1:decide ((k:Int)<Int.ofNat b.length)=true:=by simp [hk]
   have e2:decide ((F.length:Int)<Int.ofNat F.length)=false:=by simp
   simp only [Wy.ev_i,Wy.ev_k,zep,Bool.and_self,cond_true,cond_false,Int.toNat_natCast,hF,e1,e2,List.take_length]) n hn
 rw [show zdK (λ_=>true) F.length 0=true from zdY.2 λ_ _ _=>rfl] at this
 simp only [List.take_zero,zMS] at this;exact this
theorem zbff (a b:yB) (i:Nat) (hi:i<a.length) (hal:a.length<=512) (hbl:b.length<=512) (hx:VT (a.getD i default)) (hb:∀ t∈b,VT t) (out:yB) (ho:out.length<=i*512) (hs:Srs out) (hg:∀ t∈out,GT t) (n:Nat) (hn:b.length<n):
  zJ1 n a b i 0 out=(true,(a,b,(i:Int),zeO out (b.map (zlS (a.getD i default))))):=by
 have:=zcy (W:=zJR) (z:=default) (l:=b) (λk (o:yB)=>(a,b,(),(i:Int),(k:Int),())) (λ_ o=>(o,())) (λy o=>.inl (zi2 (zlS (a.getD i default) y) o)) (λo=>(a,b,(i:Int),o)) (λk o=>(o.length<=i*512+k/\Srs o)/\∀ t∈o,GT t)
  (λk o hk hI=>.inl ⟨_,rfl,⟨⟨by have:=zXP (t:=zlS (a.getD i default) (b.getD k default)) o; omega,zCf hI.1.2⟩,z78 (zRV hx (hb _ (zn hk))) hI.1.2 hI.2⟩,λH K D=>by
   show (zqV a b i k o).ev H K D=_;unfold zqV;have hy:=hb _ (zn hk);have hsz:=szTs_get' b k hk;simp only [Wy.ev_i,Wy.ev_k,Wy.ev_h,Wy.ev_bn,Wy.ev_d,tT,hk,hi,(z8U hx.1.1 hy.1.1).2];rw [zbd5 a b i k hk o _ _ hx hy _ (by omega)]
   simp only [cond_true];have e:(TO.mk (zyY (a.getD i default).Cf (b.getD k default).Cf) (zbK (a.getD i default).Fs (b.getD k default).Fs):Term)=zlS (a.getD i default) (b.getD k default):=rfl;have hg:=zRV hx hy;rw [e,zbat (d:=9) o _ (by omega) (λz hz=>(hI.2 z hz).fine) (by omega) (λz hz=>(hI.2 z hz).1) hg.1]
   simp only [cond_true];rw [zw (by omega)]⟩)
  (λo hI H K D=>by
   show (zqV a b i b.length o).ev H K D=_;unfold zqV;simp only [Wy.ev_i,Wy.ev_k,tT,Nat.lt_irrefl]) n 0 out (by omega) (by omega) (show (out.length<=i*512+0/\Srs out)/\∀ t∈out,GT t from ⟨⟨Nat.le_trans ho (Nat.le_add_right _ _),hs⟩,hg⟩)
 rw [List.drop_zero,zcz] at this
 have e:∀ (l:yB) (o:yB),l.foldl (λs t=>zi2 (zlS (a.getD i default) t) s) o=zeO o (l.map (zlS (a.getD i default))):=λl=>by
  induction l with
  | nil=>intro o; rfl
  | cons y r ih=>intro o; rw [List.foldl_cons,ih]; rfl
 rw [e] at this;exact this
theorem zbaa (o:yB) (b:yB) (x:Term):(zeO o (b.map (zlS x))).length<=o.length+b.length:=by
 have:=zFi (b.map (zlS x)) o
 rwa [List.length_map] at this
theorem zbd2 (a b:yB) (ha:∀ t∈a,VT t) (hb:∀ t∈b,VT t) (hal:a.length<=512) (hbl:b.length<=512):zHT a b=(true,zt3 a b):=by
 unfold zHT zMP
 have:=zcy (W:=zLk) (z:=default) (l:=a) (λi (o:yB)=>(a,b,(),(i:Int),())) (λ_ o=>(o,())) (λx o=>.inl (zeO o (b.map (zlS x)))) (λo=>o) (λi o=>(o.length<=i*512/\Srs o)/\∀ t∈o,GT t)
  (λi o hi hI=>.inl ⟨_,rfl,⟨⟨by have:=zbaa o b (a.getD i default); omega,zQs _ _ hI.1.2⟩,zKA _ _ hI.1.2 hI.2 λt ht=>by
    obtain ⟨y,hy,rfl⟩:=List.mem_map.1 ht;exact zRV (ha _ (zn hi)) (hb y hy)⟩,λH K D=>by
   show (zq9 a b i o).ev H K D=_;unfold zq9;have e1:decide ((i:Int)<Int.ofNat a.length)=true:=by simp [hi]
   simp only [Wy.ev_i,Wy.ev_k,Wy.ev_h,Wy.ev_bn,Wy.ev_d,e1,cond_true];rw [zbff a b i hi hal hbl (ha _ (zn hi)) hb o hI.1.1 hI.1.2 hI.2 _ (by omega)]
   simp only [cond_true];rw [zw (by omega)]⟩)
  (λo hI H K D=>by
   show (zq9 a b a.length o).ev H K D=_;unfold zq9;have e1:decide ((a.length:Int)<Int.ofNat a.length)=false:=by simp
   simp only [Wy.ev_i,Wy.ev_k,e1,cond_false]) ((a.length+b.length+Int.toNat (0:Int)+(0:Nat)+(1:Nat))+zd5 a+zd5 b+zd5 []) 0 [] (by omega) (by omega) ⟨⟨by simp,.nil⟩,λt ht=>by cases ht⟩
 rw [List.drop_zero,zcz] at this
 have e:∀ (l:yB) (o:yB),l.foldl (λs x=>zeO s (b.map (zlS x))) o=zeO o (zf3 l b):=λl=>by
  induction l with
  | nil=>intro o; rfl
  | cons y r ih=>
   intro o;rw [List.foldl_cons,ih];show _=(zf3 (y::r) b).foldl (λa t=>zi2 t a) o
   unfold zf3;rw [List.flatMap_cons,List.foldl_append]; rfl
 rw [e] at this;have this:zK0 ((a.length+b.length+Int.toNat (0:Int)+(0:Nat)+(1:Nat))+zd5 a+zd5 b+zd5 []) a b 0 []=(true,zt3 a b):=this;rw [Wy.fin_bn,this]; rfl
theorem zbaT (a b:yB) (ha:∀ t∈a,GT t) (hb:∀ t∈b,GT t) (hs:Srs a) (hal:a.length<=512) (hbl:b.length<=512):zHt a b=(true,zeO a b):=by
 unfold zHt zZG
 have:=zcy (W:=zKx) (z:=default) (l:=b) (λi (o:yB)=>(o,b,(i:Int),())) (λ_ o=>()) (λx o=>.inl (zi2 x o)) (λo=>o) (λi o=>(o.length<=512+i/\Srs o)/\∀ t∈o,GT t)
  (λi o hi hI=>.inl ⟨_,rfl,⟨⟨by have:=zXP (t:=b.getD i default) o; omega,zCf hI.1.2⟩,z78 (hb _ (zn hi)) hI.1.2 hI.2⟩,λH K D=>by
   show (zy0 o b i).ev H K D=_;unfold zy0;simp only [Wy.ev_i,Wy.ev_k,Wy.ev_h,Wy.ev_bn,Wy.ev_d,tT,hi];rw [zbat (d:=9) o _ (by omega) (λz hz=>(hI.2 z hz).fine) (by omega) (λz hz=>(hI.2 z hz).1) (hb _ (zn hi)).1,cond_true,zw (by omega)]⟩)
  (λo hI H K D=>by
   show (zy0 o b b.length).ev H K D=_;unfold zy0;simp only [Wy.ev_i,Wy.ev_k,tT,Nat.lt_irrefl]) (a.length+b.length+Int.toNat (0:Int)+(1:Nat)) 0 a (by omega) (by omega) ⟨⟨by omega,hs⟩,ha⟩
 rw [List.drop_zero,zcz] at this;have this:zV6 (a.length+b.length+Int.toNat (0:Int)+(1:Nat)) a b 0=(true,zeO a b):=this;rw [Wy.fin_bn,this]; rfl
def okA (a:yB):Prop:=(zp 12 a/\zN a<=4611686018427387904)/\zgE a/\a.length<=zZ
def opR (ok:Bool) (r:yB×Int):yB×Int:=bif ok then r else ([],1)
def zkQ (a b:yB):yB×Int:=opR (zU a&&zU b) (zmp (zeO a b))
def zLg (a b:yB):yB×Int:=opR (zU a&&zU b) (zmp (zt3 a b))
def zbbL (a b:yB):At:=⟨1,⟨0,0⟩,[a,b],0,[],0,⟨0,0,ByteArray.mk #[]⟩⟩
def z4h (a:yB):At:=⟨2,⟨0,0⟩,[a],0,[],0,⟨0,0,ByteArray.mk #[]⟩⟩
def zbbQ (a:yB):At:=⟨3,⟨0,0⟩,[a],0,[],0,⟨0,0,ByteArray.mk #[]⟩⟩
def zRc (a b:yB):yB×Int:=opR (zU a&&zU b) (if b=[] then (a,0) else if a=[]\/a=b then ([],0) else zmp (zcT (zbbL a b)))
def zSx (a:yB):yB×Int:=opR (zU a) (if a=[]\/isU a=true then (a,0) else if isC a=true then ([⟨1,[]⟩],0) else zmp (zcT (z4h a)))
def zRS (a:yB):yB×Int:=opR (zU a) (if a=[] then ([⟨1,[]⟩],0) else if zxo a=true then ([],0) else zmp (zcT (zbbQ a)))
theorem okA.valid {a:yB} (h:okA a):zb9 a=(true,zU a):=z5C h.1.1 (by omega) h.1.2
theorem okA.rvalid {a:yB} (h:okA a):zfK a=(true,zU a):=z2u h.1.1 (by omega) h.1.2
theorem zbcq {a b:yB} (ha:okA a) (hb:okA b):zql a b=(true,zkQ a b)/\zy6 a b=(true,zkQ a b):=by
 unfold zql zKJ zy6 zNT zkQ;simp only [Wy.fin_bn,Wy.fin_i,Wy.fin_k,ha.valid,hb.valid,ha.rvalid,hb.rvalid,cond_true];cases va:zU a with
 | false=>first | exact ⟨trivial,trivial⟩ | exact ⟨rfl,rfl⟩ | exact ⟨trivial,rfl⟩ | exact ⟨rfl,trivial⟩
 | true=>
  cases vb:zU b with
  | false=>first | exact ⟨trivial,trivial⟩ | exact ⟨rfl,rfl⟩ | exact ⟨trivial,rfl⟩ | exact ⟨rfl,trivial⟩
  | true=>
   obtain ⟨sa,la,ta⟩:=ztQ va ha.2.1;obtain ⟨sb,lb,tb⟩:=ztQ vb hb.2.1;have ga:∀ t∈a,GT t:=λt ht=>(ta t ht).1
   have gb:∀ t∈b,GT t:=λt ht=>(tb t ht).1
   have hc:=zbd8 [a,b] (by simp) (λl hl=>by
    simp only [qd,List.not_mem_nil,or_false] at hl;rcases hl with rfl | rfl <;>omega)
   have e:[a,b].flatten=a++b:=by simp
   have hcol:=z1R (a++b) (by simp; omega) λt ht=>by
    rcases List.mem_append.1 ht with ht | ht
    ·exact ga t ht
    ·exact gb t ht
   rw [e] at hc;rw [zbfd a b sa] at hcol;have hsl:(zeO a b).length<=1000000:=by have:=zFi b a; omega
   obtain ⟨f1,f2⟩:=z2d hsl (zKA b a sa ga gb);simp only [Bool.not_true,cond_false,Bool.and_self,hc,hcol,zzt f1 (by omega:10<=100) f2,zbaT a b ga gb sa la lb,zJM f1 (by omega:10<=100) f2,cond_true]
   first | exact ⟨trivial,trivial⟩ | exact ⟨rfl,rfl⟩ | exact ⟨trivial,rfl⟩ | exact ⟨rfl,trivial⟩
theorem zbhf {a b:yB} (ha:okA a) (hb:okA b):zuF a b=(true,zLg a b)/\z5v a b=(true,zLg a b):=by
 unfold zuF zJ9 z5v zY8 zLg;simp only [Wy.fin_bn,Wy.fin_i,Wy.fin_k,ha.valid,hb.valid,ha.rvalid,hb.rvalid,cond_true];cases va:zU a with
 | false=>first | exact ⟨trivial,trivial⟩ | exact ⟨rfl,rfl⟩ | exact ⟨trivial,rfl⟩ | exact ⟨rfl,trivial⟩
 | true=>
  cases vb:zU b with
  | false=>first | exact ⟨trivial,trivial⟩ | exact ⟨rfl,rfl⟩ | exact ⟨trivial,rfl⟩ | exact ⟨rfl,trivial⟩
  | true=>
   obtain ⟨sa,la,ta⟩:=ztQ va ha.2.1;obtain ⟨sb,lb,tb⟩:=ztQ vb hb.2.1;have hm:=zbid a b ta tb la lb (b.length+a.length+(Int.ofNat a.length).toNat +Int.toNat (0:Int)+(0:Nat)+(1:Nat)) (by omega)
   have hm:zz1 (b.length+a.length+(Int.ofNat a.length).toNat +Int.toNat (0:Int)+(0:Nat)+(1:Nat)) b a (Int.ofNat a.length) 0 []=_:=hm;have hpl:(zf3 a b).length<=1000000:=by rw [zV1]; have:=Nat.mul_le_mul la lb; omega
   have hcol:=z1R (zf3 a b) hpl (z0T ta tb);have hsl:(zt3 a b).length<=1000000:=by have:=zFi (zf3 a b) []; simp at this; exact Nat.le_trans this hpl
   obtain ⟨f1,f2⟩:=z2d hsl (zKA (zf3 a b) [] .nil (λt ht=>by cases ht) (z0T ta tb))
   have f1:zp 10 (zt3 a b):=f1;have f2:zN (zt3 a b)<=4611686018427387904:=f2;have hcol:zh5 (zf3 a b)=(true,zt3 a b):=hcol;simp only [Bool.not_true,cond_false,Bool.and_self,hm,hcol,zzt f1 (by omega:10<=100) f2,zbd2 a b ta tb la lb,zJM f1 (by omega:10<=100) f2,cond_true]
   first | exact ⟨trivial,trivial⟩ | exact ⟨rfl,rfl⟩ | exact ⟨trivial,rfl⟩ | exact ⟨rfl,trivial⟩
theorem zRd {l:yA} {k:Int} (hl:l.length<=2) (h:∀ a∈l,zU a=true):zp 10 (zcT ⟨k,⟨0,0⟩,l,0,[],0,⟨0,0,ByteArray.mk #[]⟩⟩)/\zN (zcT ⟨k,⟨0,0⟩,l,0,[],0,⟨0,0,ByteArray.mk #[]⟩⟩)<=4611686018427387904:=by
 constructor
 ·exact zW6 ⟨⟨by simp only; omega,by simp,by show (ByteArray.mk #[]).size<=_; decide⟩,λa ha=>(ze0 (h a ha)).1,λw hw=>(by cases hw)⟩
 ·rw [z0x,zhb]
  have hb:∀ l:yA,(∀ a∈l,zU a=true)->ze5 l<=l.length*4096:=λl=>by
   induction l with
   | nil=>intro _; rw [zgL]; simp
   | cons a r ih=>
    intro h;have h1:=(ze0 (h a (by simp))).2.1
    have h2:=ih λb hb=>h b (by simp [hb])
    rw [zeK,qf,Nat.add_mul]; omega
  have:=hb l h;show 2+(ze5 l+zc6 [])<=_;rw [zfG];have:=Nat.mul_le_mul hl (Nat.le_refl 4096);omega
theorem z4F (a:yB):(Int.ofNat a.length==(0:Int))=decide (a=[]):=by
 rw [show (Int.ofNat a.length==(0:Int))=(a.length==0) from zrq _ 0,z0D]
 congr 1;rw [List.length_eq_zero_iff]
theorem zbdA {a b:yB} (ha:okA a) (hb:okA b):zri a b=(true,zRc a b)/\zY7 a b=(true,zRc a b):=by
 unfold zri zGk zY7 zS9 zRc;simp only [Wy.fin_bn,Wy.fin_i,Wy.fin_k,ha.valid,hb.valid,ha.rvalid,hb.rvalid,cond_true];cases va:zU a with
 | false=>first | exact ⟨trivial,trivial⟩ | exact ⟨rfl,rfl⟩ | exact ⟨trivial,rfl⟩ | exact ⟨rfl,trivial⟩
 | true=>
  cases vb:zU b with
  | false=>first | exact ⟨trivial,trivial⟩ | exact ⟨rfl,rfl⟩ | exact ⟨trivial,rfl⟩ | exact ⟨rfl,trivial⟩
  | true=>
   obtain ⟨f1,f2⟩:=zRd (l:=[a,b]) (k:=1) (by simp) (λx hx=>by
    simp only [qd,List.not_mem_nil,or_false] at hx;rcases hx with rfl | rfl
    ·exact va
    ·exact vb)
   simp only [Bool.not_true,cond_false,Bool.and_self,z4F,zGI ha.1.1 (by omega:12<=100),zEM ha.1.1 (by omega:12<=100),zIl ha.1.1 (by omega:12<=100),zGH,zOL,zzt f1 (by omega:10<=100) f2,zJM f1 (by omega:10<=100) f2,cond_true,opR]
   by_cases hb0:b=[]
   ·simp only [hb0,decide_true,cond_true,if_true]; exact ⟨trivial,trivial⟩
   ·by_cases ha0:a=[]
    ·simp only [hb0,ha0,decide_true,decide_false,cond_true,cond_false,if_true,if_false,true_or]; exact ⟨trivial,trivial⟩
    ·by_cases hab:a=b
     ·simp only [hb0,ha0,hab,decide_true,decide_false,cond_true,cond_false,if_true,if_false,or_true]; exact ⟨trivial,trivial⟩
     ·simp only [hb0,ha0,hab,decide_false,cond_false,if_false,or_self]; first | exact ⟨trivial,trivial⟩ | exact ⟨rfl,rfl⟩ | exact ⟨trivial,rfl⟩ | exact ⟨rfl,trivial⟩
theorem zbd4 {a:yB} (ha:okA a):zqF a=(true,zSx a)/\zZr a=(true,zSx a):=by
 unfold zqF zG6 zZr zTf zSx;simp only [Wy.fin_bn,Wy.fin_i,Wy.fin_k,ha.valid,ha.rvalid,cond_true];cases va:zU a with
 | false=>first | exact ⟨trivial,trivial⟩ | exact ⟨rfl,rfl⟩ | exact ⟨trivial,rfl⟩ | exact ⟨rfl,trivial⟩
 | true=>
  obtain ⟨f1,f2⟩:=zRd (l:=[a]) (k:=2) (by simp) (λx hx=>by rw [qh] at hx; subst hx; exact va)
  have hla:a.length<=1000000000:=by have:=(ze0 va).2.2; omega
  have hbu:isB a=isU a:=zWS va;simp only [Bool.not_true,cond_false,z4F,zGI ha.1.1 (by omega:12<=100),z5t,zST,zMZ,zAf a hla,zGH,zOL,zzt f1 (by omega:10<=100) f2,zJM f1 (by omega:10<=100) f2,cond_true,opR,hbu]
  rw [show zmp (zcT ⟨2,⟨0,0⟩,[a],0,[],0,⟨0,0,ByteArray.mk #[]⟩⟩)=zmp (zcT (z4h a)) from rfl]
  clear f1 f2;generalize zmp (zcT (z4h a))=R;by_cases h0:a=[]
  ·simp only [h0,decide_true,cond_true,if_true,true_or]; exact ⟨trivial,trivial⟩
  ·cases hu:isU a with
   | true=>simp only [h0,decide_false,cond_false,cond_true,if_true,or_true]; exact ⟨trivial,trivial⟩
   | false=>
    simp only [h0,decide_false,cond_false,if_false,or_self,Bool.false_eq_true]
    match a,h0 with
    | [t],_=>
     have e1:zxo [t]=(t.Fs.length==0):=by simp [zxo]
     have e2:isC [t]=(t.Fs.length==0):=rfl;rw [e1,e2];cases (t.Fs.length==0) with
     | true=>simp only [cond_true,if_true]; first | exact ⟨trivial,trivial⟩ | exact ⟨rfl,rfl⟩ | exact ⟨trivial,rfl⟩ | exact ⟨rfl,trivial⟩
     | false=>simp only [cond_false,cond_true,Bool.false_eq_true,if_false]; first | exact ⟨trivial,trivial⟩ | exact ⟨rfl,rfl⟩ | exact ⟨trivial,rfl⟩ | exact ⟨rfl,trivial⟩
    | t::s::r,_=>
     have e2:isC (t::s::r)=false:=rfl;simp only [zOA,e2,cond_false,cond_true,Bool.false_eq_true,if_false]
     first | exact ⟨trivial,trivial⟩ | exact ⟨rfl,rfl⟩ | exact ⟨trivial,rfl⟩ | exact ⟨rfl,trivial⟩
theorem zbcW {a:yB} (ha:okA a):zo7 a=(true,zRS a)/\zWX a=(true,zRS a):=by
 unfold zo7 zEK zWX zPj zRS;simp only [Wy.fin_bn,Wy.fin_i,Wy.fin_k,ha.valid,ha.rvalid,cond_true];cases va:zU a with
 | false=>first | exact ⟨trivial,trivial⟩ | exact ⟨rfl,rfl⟩ | exact ⟨trivial,rfl⟩ | exact ⟨rfl,trivial⟩
 | true=>
  obtain ⟨f1,f2⟩:=zRd (l:=[a]) (k:=3) (by simp) (λx hx=>by rw [qh] at hx; subst hx; exact va)
  have hla:a.length<=1000000000:=by have:=(ze0 va).2.2; omega
  simp only [Bool.not_true,cond_false,z4F,zQh a hla,zAf a hla,zGH,zOL,zzt f1 (by omega:10<=100) f2,zJM f1 (by omega:10<=100) f2,cond_true,opR]
  by_cases h0:a=[]
  ·simp only [h0,decide_true,cond_true,if_true]; first | exact ⟨trivial,trivial⟩ | exact ⟨rfl,rfl⟩ | exact ⟨trivial,rfl⟩ | exact ⟨rfl,trivial⟩
  ·cases hu:zxo a with
   | true=>simp only [h0,decide_false,cond_false,cond_true,if_true,if_false]; exact ⟨trivial,trivial⟩
   | false=>simp only [h0,decide_false,cond_false,if_false,Bool.false_eq_true]; first | exact ⟨trivial,trivial⟩ | exact ⟨rfl,rfl⟩ | exact ⟨trivial,rfl⟩ | exact ⟨rfl,trivial⟩
theorem zVA {n:Int} (h:rng n):wf3 n:=by
 show (Lit.int .i64 n).wf=true;have:IntKind.i64.min<=n/\n<=IntKind.i64.max:=⟨h.1,h.2⟩
 simpa [Lit.wf] using this
theorem zWE {t:Term} (hc:rng t.Cf) (hf:∀ f∈t.Fs,zgB f.At/\rng f.Exp) (hl:t.Fs.length<=1000000):zAY t:=by
 obtain ⟨c,fs⟩:=t;unfold zAY;refine ⟨zVA hc,zJ4 fs λf h=> ?_,by have:zZ=140737488351232:=rfl; simp only at hl; omega⟩
 obtain ⟨x,e⟩:=f;unfold zvT;exact ⟨(hf _ h).1,zVA (hf _ h).2⟩
def okR (r:yB×Int):Prop:=okA r.1/\(r.2=0\/r.1=[])
theorem zmr:okA []:=⟨⟨zbeb 11,by rw [zwf]; omega⟩,by unfold zgE; trivial,by simp⟩
theorem zJE {a:yB} (h:okA a):okR (zmp a):=by
 unfold zmp;cases zfs a with
 | true=>exact ⟨h,.inl rfl⟩
 | false=>exact ⟨zmr,.inr rfl⟩
theorem zUS {ok:Bool} {r:yB×Int} (h:ok=true->okR r):okR (opR ok r):=by
 unfold opR;cases ok with
 | true=>exact h rfl
 | false=>exact ⟨zmr,.inr rfl⟩
theorem z3A {l:yB} (hl:l.length<=1000000) (h:∀ t∈l,GT t):okA l:=by
 obtain ⟨h1,h2⟩:=z2d hl h;refine ⟨⟨h1.mono (by omega),h2⟩,zFL l λt ht=> ?_,by have:zZ=140737488351232:=rfl; omega⟩
 have hg:=h t ht;exact zWE ⟨by have:=hg.1.1; omega,by have:=hg.1.2; omega⟩ (λf hf=>⟨(hg.2.2 f hf).1.2.1,(hg.2.2 f hf).gF.2.2⟩) (by have:=hg.2.1; omega)
theorem z4P {a b:yB} (ha:okA a) (hb:okA b):okR (zkQ a b):=zUS λhv=>by
 rw [qc] at hv;obtain ⟨sa,la,ta⟩:=ztQ hv.1 ha.2.1;obtain ⟨sb,lb,tb⟩:=ztQ hv.2 hb.2.1;exact zJE (z3A (by have:=zFi b a; omega) (zKA b a sa (λt ht=>(ta t ht).1) λt ht=>(tb t ht).1))
theorem zbad {a b:yB} (ha:okA a) (hb:okA b):okR (zLg a b):=zUS λhv=>by
 rw [qc] at hv;obtain ⟨sa,la,ta⟩:=ztQ hv.1 ha.2.1;obtain ⟨sb,lb,tb⟩:=ztQ hv.2 hb.2.1;have hpl:(zf3 a b).length<=1000000:=by rw [zV1]; have:=Nat.mul_le_mul la lb; omega
 exact zJE (z3A (by have:=zFi (zf3 a b) []; simp at this; exact Nat.le_trans this hpl) (zKA (zf3 a b) [] .nil (λt ht=>by cases ht) (z0T ta tb)))
theorem z7W {x:At} (hf:zc7 (zp 9) x) (hs:zN (zcT x)<=4611686018427387904) (hw:zgB x):okA (zcT x):=by
 refine ⟨⟨(zW6 hf).mono (by omega),hs⟩,zFL _ λt ht=> ?_,by simp [zcT,zZ]⟩
 simp only [zcT,qh] at ht;subst ht;refine zWE ⟨by simp,by simp⟩ (λf hf=> ?_) (by simp)
 simp only [qh] at hf;subst hf;exact ⟨hw,⟨by simp,by simp⟩⟩
theorem zVt {n:Int} (h: -1000<=n/\n<=1000):rng n:=⟨by omega,by omega⟩
theorem zqi:wf3 0:=zVA (zVt (by omega))
theorem zVf {l:yA} {k:Int} (hk:0<=k/\k<=4) (hl:l.length<=2) (h:∀ a∈l,zU a=true) (hw:∀ a∈l,okA a):okA (zcT ⟨k,⟨0,0⟩,l,0,[],0,⟨0,0,ByteArray.mk #[]⟩⟩):=by
 refine z7W ⟨⟨by simp only; omega,by simp,by show (ByteArray.mk #[]).size<=_; decide⟩,λa ha=>(ze0 (h a ha)).1,λw hw=>(by cases hw)⟩ (zRd hl h).2 ?_
 unfold zgB;have hr:zZ=140737488351232:=rfl;refine ⟨zVA (zVt (by omega)),⟨zqi,zqi⟩,⟨zU6 l λa ha=>⟨(hw a ha).2.1,(hw a ha).2.2⟩,by omega⟩,zqi,⟨by unfold zsu; trivial,by simp⟩,zqi,⟨zqi,zqi, ?_⟩⟩
 show (ByteArray.mk #[]).size<=zZ;rw [hr]; decide
theorem zbaD {a b:yB} (ha:okA a) (hb:okA b):okR (zRc a b):=zUS λhv=>by
 rw [qc] at hv;split
 ·exact ⟨ha,.inl rfl⟩
 ·split
  ·exact ⟨zmr,.inl rfl⟩
  ·refine zJE (zVf (by omega) (by simp) (λx hx=> ?_) λx hx=> ?_)
   ·simp only [qd,List.not_mem_nil,or_false] at hx;rcases hx with rfl | rfl
    ·exact hv.1
    ·exact hv.2
   ·simp only [qd,List.not_mem_nil,or_false] at hx;rcases hx with rfl | rfl
    ·exact ha
    ·exact hb
theorem zXL (c:Int) (hc:1<=c/\c<=1152921504606846976):okA [⟨c,[]⟩]:=z3A (by simp) λt ht=>by
 rw [qh] at ht; subst ht;exact ⟨hc,by simp,λf hf=>by cases hf⟩
theorem zbaX {a:yB} (ha:okA a):okR (zSx a):=zUS λhv=>by
 split
 ·exact ⟨ha,.inl rfl⟩
 ·split
  ·exact ⟨zXL 1 (by omega),.inl rfl⟩
  ·exact zJE (zVf (by omega) (by simp) (λx hx=>by rw [qh] at hx; subst hx; exact hv) λx hx=>by rw [qh] at hx; subst hx; exact ha)
theorem zbah {a:yB} (ha:okA a):okR (zRS a):=zUS λhv=>by
 split
 ·exact ⟨zXL 1 (by omega),.inl rfl⟩
 ·split
  ·exact ⟨zmr,.inl rfl⟩
  ·exact zJE (zVf (by omega) (by simp) (λx hx=>by rw [qh] at hx; subst hx; exact hv) λx hx=>by rw [qh] at hx; subst hx; exact ha)
def zBr (n:Int):yB:=if n<1 then [] else [⟨if 1152921504606846976<n then 1152921504606846976 else n,[]⟩]
def zvN (id:RowID):yB:=bif zzc id then zcT ⟨0,id,[],0,[],0,⟨0,0,ByteArray.mk #[]⟩⟩ else []
theorem zbei (n:Int):zqO n=(true,zBr n)/\zZt n=(true,zBr n):=by
 unfold zqO zHo zZt zSQ zBr;by_cases h:n<1
 ·simp only [Wy.fin_i,Wy.fin_k,h,decide_true,cond_true,if_true]; exact ⟨trivial,trivial⟩
 ·simp only [Wy.fin_i,Wy.fin_k,h,decide_false,cond_false,if_false]; exact ⟨trivial,trivial⟩
theorem zbgD (id:RowID):zuN id=(true,zvN id)/\zGl id=(true,zvN id):=by
 unfold zuN zJT zGl zZI zvN zzc;simp only [Wy.fin_i,Wy.fin_bn,Wy.fin_k,zDS,zGH,zOL,cond_true];unfold zzc
 have e1:decide (id.Table<1)= !decide (id.Table≥1):=by
  by_cases h:id.Table<1
  ·have:¬ id.Table≥1:=by omega
   simp only [h,this,decide_true,decide_false,Bool.not_false]
  ·have:id.Table≥1:=by omega
   simp only [h,this,decide_true,decide_false,Bool.not_true]
 have e2:decide (id.Seq<1)= !decide (id.Seq≥1):=by
  by_cases h:id.Seq<1
  ·have:¬ id.Seq≥1:=by omega
   simp only [h,this,decide_true,decide_false,Bool.not_false]
  ·have:id.Seq≥1:=by omega
   simp only [h,this,decide_true,decide_false,Bool.not_true]
 rw [e1,e2];cases decide (id.Table≥1) <;>cases decide (id.Seq≥1) <;>exact ⟨rfl,rfl⟩
theorem zbcy (n:Int):okA (zBr n):=by
 unfold zBr;split
 ·exact zmr
 ·refine zXL _ ?_;split <;>omega
theorem zbgA {id:RowID} (h:zZX id):okA (zvN id):=by
 unfold zvN;cases hr:zzc id with
 | false=>exact zmr
 | true=>
  refine z7W ⟨⟨by simp,by simp,by show (ByteArray.mk #[]).size<=_; decide⟩,λa ha=>(by cases ha),λw hw=>(by cases hw)⟩ (by rw [z0x,zhb,zgL,zfG]; omega) ?_
  unfold zgB;refine ⟨zqi,h,⟨by unfold zw7; trivial,by simp⟩,zqi,⟨by unfold zsu; trivial,by simp⟩,zqi,⟨zqi,zqi, ?_⟩⟩
  show (ByteArray.mk #[]).size<=zZ;have hr:zZ=140737488351232:=rfl;rw [hr]; decide
theorem zbe0 {a:yB} {n:Nat} (hn:n<=1000) (h:zp 12 a/\zej a<=n) (hw:z8V a):okA a:=⟨⟨h.1,by have:=zJz a; omega⟩,hw.1,hw.2⟩
def MF (l:yC):Prop:=Srf l/\∀ f∈l,eOK f/\1<=f.Exp
theorem MF.tail {f:Fc} {l:yC} (h:MF (f::l)):MF l:=⟨(qi.1 h.1).2,λg hg=>h.2 g (by simp [hg])⟩
theorem MF.nil:MF []:=⟨List.Pairwise.nil,λf hf=>by cases hf⟩
theorem cF_self' {x y:Fc} (h:x.At=y.At):cF x y=0:=by unfold cF; rw [h]; exact zCl _
theorem MF.ne {f:Fc} {l:yC} (h:MF (f::l)):∀ g∈l,g.At≠f.At:=λg hg e=>by
 have:=(qi.1 h.1).1 g hg;rw [cF_self' e.symm] at this; omega
theorem zbdY {a b:yC}:Srf a->Srf b->Srf (zbK a b):=by
 induction a,b using zbK.induct with
 | case1 b=>intro _ hb; rw [zbK]; exact hb
 | case2 x a=>intro ha _; rw [zbK]; exact ha
 | case3 x a y b h ih=>
  intro ha hb;have ca:=qi.1 ha;rw [zbK,if_pos h];refine qi.2 ⟨λz hz=> ?_,ih ca.2 hb⟩
  obtain ⟨w,hw,e⟩:=ztK hz;have:cF x z=cF x w:=by unfold cF; rw [e]
  rw [this];rcases hw with hw | hw
  ·exact ca.1 w hw
  ·rcases qd.1 hw with rfl | hw
   ·exact h
   ·exact zFs h ((qi.1 hb).1 w hw)
 | case4 x a y b h h2 ih=>
  intro ha hb;have cb:=qi.1 hb;rw [zbK,if_neg h,if_pos h2];have h3:cF y x<0:=by rw [zbfR x y]; omega
  refine qi.2 ⟨λz hz=> ?_,ih ha cb.2⟩
  obtain ⟨w,hw,e⟩:=ztK hz;have:cF y z=cF y w:=by unfold cF; rw [e]
  rw [this];rcases hw with hw | hw
  ·rcases qd.1 hw with rfl | hw
   ·exact h3
   ·exact zFs h3 ((qi.1 ha).1 w hw)
  ·exact cb.1 w hw
 | case5 x a y b h h2 ih=>
  intro ha hb;have ca:=qi.1 ha;have cb:=qi.1 hb;have h0:x.At=y.At:=zbai (by omega)
  rw [zbK,if_neg h,if_neg h2];have hA:(if x.At.Kind=3\/x.At.Kind=4 then x else ⟨x.At,x.Exp+y.Exp⟩:Fc).At=x.At:=by split <;>rfl
  refine qi.2 ⟨λz hz=> ?_,ih ca.2 cb.2⟩
  obtain ⟨w,hw,e⟩:=ztK hz;have:cF (if x.At.Kind=3\/x.At.Kind=4 then x else ⟨x.At,x.Exp+y.Exp⟩:Fc) z=cF x w:=by unfold cF; rw [e,hA]
  rw [this];rcases hw with hw | hw
  ·exact ca.1 w hw
  ·have:cF x w=cF y w:=by unfold cF; rw [h0]
   rw [this]; exact cb.1 w hw
theorem zbdC {a b:yC}:(∀ f∈a,eOK f/\1<=f.Exp)->(∀ f∈b,eOK f/\1<=f.Exp)->∀ f∈zbK a b,eOK f/\1<=f.Exp:=by
 induction a,b using zbK.induct with
 | case1 b=>intro _ hb; rw [zbK]; exact hb
 | case2 x a=>intro ha _; rw [zbK]; exact ha
 | case3 x a y b h ih=>
  intro ha hb f hf;rw [zbK,if_pos h] at hf;rcases qd.1 hf with rfl | hf
  ·exact ha _ (by simp)
  ·exact ih (λg hg=>ha g (by simp [hg])) hb f hf
 | case4 x a y b h h2 ih=>
  intro ha hb f hf;rw [zbK,if_neg h,if_pos h2] at hf;rcases qd.1 hf with rfl | hf
  ·exact hb _ (by simp)
  ·exact ih ha (λg hg=>hb g (by simp [hg])) f hf
 | case5 x a y b h h2 ih=>
  intro ha hb f hf;rw [zbK,if_neg h,if_neg h2] at hf;rcases qd.1 hf with rfl | hf
  ·have h1:=ha x (by simp)
   have h2:=hb y (by simp)
   split
   ·exact h1
   ·rename_i hk;exact ⟨⟨h1.1.1,λh=>absurd h hk⟩,by show 1<=x.Exp+y.Exp; omega⟩
  ·exact ih (λg hg=>ha g (by simp [hg])) (λg hg=>hb g (by simp [hg])) f hf
theorem zbf5 {a b:yC} (ha:MF a) (hb:MF b):MF (zbK a b):=⟨zbdY ha.1 hb.1,zbdC ha.2 hb.2⟩
def EqS (n m:Nat):Prop:=n=m\/(1152921504606846976<=n/\1152921504606846976<=m)
theorem EqS.refl (n:Nat):EqS n n:=.inl rfl
theorem EqS.symm {n m:Nat} (h:EqS n m):EqS m n:=by unfold EqS at *; omega
theorem EqS.trans {n m k:Nat} (h:EqS n m) (h':EqS m k):EqS n k:=by unfold EqS at *; omega
theorem EqS.add {n m n' m':Nat} (h:EqS n n') (h':EqS m m'):EqS (n+m) (n'+m'):=by unfold EqS at *; omega
theorem EqS.mul1 {n n':Nat} (k:Nat) (h:EqS n n'):EqS (n*k) (n'*k):=by
 rcases h with rfl | ⟨h1,h2⟩
 ·exact .refl _
 ·rcases Nat.eq_zero_or_pos k with rfl | hk
  ·exact .inl (by simp)
  ·exact .inr ⟨Nat.le_trans h1 (Nat.le_mul_of_pos_right n hk),Nat.le_trans h2 (Nat.le_mul_of_pos_right n' hk)⟩
theorem EqS.mul {n m n' m':Nat} (h:EqS n n') (h':EqS m m'):EqS (n*m) (n'*m'):=by
 refine (h.mul1 m).trans ?_;rw [Nat.mul_comm n' m,Nat.mul_comm n' m'];exact h'.mul1 n'
def PA (a:yB):Prop:=Srs a/\∀ t∈a,cOK t/\MF t.Fs
theorem PA.c {a:yB} (h:PA a):∀ t∈a,cOK t:=λt ht=>(h.2 t ht).1
theorem zbgR {a b:yB} (ha:PA a) (hb:PA b):PA (zeO a b):=⟨zQs _ _ ha.1,λt ht=>⟨zbbk b ha.c hb.c t ht,by
 obtain ⟨x,hx,e⟩:=zJK b a ha.1 ht;rw [e];rcases hx with hx | hx
 ·exact (ha.2 x hx).2
 ·exact (hb.2 x hx).2⟩⟩
theorem PA.nil:PA []:=⟨List.Pairwise.nil,λt ht=>by cases ht⟩
theorem zbbB {c:Int} (h:c<=1152921504606846976):zyY c 1=c:=by
 unfold zyY;rw [if_neg (by rw [Int.tdiv_one]; omega)]; omega
theorem zLN {τ:Type} [Inhabited τ] {R:τ->τ->Prop}:∀ {l:List τ},l.Pairwise R->∀ k,0<k->k<l.length->R (l.getD (k - 1) default) (l.getD k default)
 | [],_,k,_,h=>by simp at h
 | x::r,h,0,h0,_=>by omega
 | x::r,h,1,_,h1=>(qi.1 h).1 _ (zn (by simpa using h1))
 | x::r,h,k+2,_,h1=>zLN (qi.1 h).2 (k+1) (by omega) (by simp only [qf] at h1; omega)
def OKF (vat:At->Bool) (fs:yC):Prop:=Srf fs/\∀ f∈fs,(1<=f.Exp/\(f.At.Kind=3\/f.At.Kind=4->f.Exp=1))/\vat f.At=true
theorem zbar {vat:At->Bool} {fs:yC}:okF vat fs=true↔OKF vat fs:=by
 constructor
 ·intro h;refine ⟨zuJ (R:=λx y=>cF x y<0) (λx y z h1 h2=>zFs h1 h2) _ λk hk hl=> ?_,λf hf=>zpC h hf⟩
  have:=zdY.1 h k (by omega) (by omega)
  simp only [zOn,qc,Bool.or_eq_true,qe] at this;rcases this.1.2 with e | e
  ·omega
  ·exact e
 ·intro h;refine zdY.2 λk _ hk=> ?_
  have hm:=h.2 _ (zn (l:=fs) (i:=k) (by omega))
  simp only [zOn,qc,Bool.or_eq_true,qe,Bool.not_eq_true',Bool.and_eq_false_iff];refine ⟨⟨⟨hm.1.1, ?_⟩, ?_⟩,hm.2⟩
  ·by_cases hk:(fs.getD k default).At.Kind=3\/(fs.getD k default).At.Kind=4
   ·right; rw [hm.1.2 hk]; rfl
   ·left
    rw [Bool.or_eq_false_iff];constructor
    ·simpa using λe=>hk (.inl e)
    ·simpa using λe=>hk (.inr e)
  ·by_cases h0:k=0
   ·exact .inl h0
   ·exact .inr (zLN h.1 k (by omega) (by omega))
theorem zRz {vat:At->Bool} {a:yB}:zxP vat a=true↔zfs a=true/\Srs a/\∀ t∈a,cOK t/\OKF vat t.Fs:=by
 constructor
 ·intro h;have hall:=h;simp only [zxP,qc] at hall;refine ⟨hall.1,zuJ (R:=λx y=>cT x y<0) (λx y z h1 h2=>zLv h1 h2) a λk hk hl=> ?_,λt ht=>⟨(zvu h ht).1,zbar.1 (zvu h ht).2⟩⟩
  have:=zdY.1 hall.2 k (by omega) (by omega)
  simp only [zDt,qc,Bool.or_eq_true,qe] at this;rcases this.1.2 with e | e
  ·omega
  ·exact e
 ·rintro ⟨h1,h2,h3⟩
  simp only [zxP,qc];refine ⟨h1,zdY.2 λk _ hk=> ?_⟩
  have hm:=h3 _ (zn (l:=a) (i:=k) (by omega))
  simp only [zDt,qc,Bool.or_eq_true,qe];refine ⟨⟨⟨hm.1.1,hm.1.2⟩, ?_⟩,zbar.2 hm.2⟩;by_cases h0:k=0
  ·exact .inl h0
  ·exact .inr (zLN h2 k (by omega) (by omega))
def QA (a:yB):Prop:=Srs a/\∀ t∈a,cOK t/\OKF zpg t.Fs
theorem zvx {a:yB}:zU a=true↔zfs a=true/\QA a:=by rw [z14]; exact zRz
theorem OKF.mf {fs:yC} (h:OKF zpg fs):MF fs:=⟨h.1,λf hf=>⟨⟨zC1 (h.2 f hf).2,(h.2 f hf).1.2⟩,(h.2 f hf).1.1⟩⟩
theorem QA.pa {a:yB} (h:QA a):PA a:=⟨h.1,λt ht=>⟨(h.2 t ht).1,(h.2 t ht).2.mf⟩⟩
theorem z0I {a:yB} (h:zU a=true):QA a:=(zvx.1 h).2
theorem zbds {a:yB} (h:zU a=true):PA a:=(z0I h).pa
theorem MF.okf {fs:yC} (h:MF fs) (hv:∀ f∈fs,zpg f.At=true):OKF zpg fs:=⟨h.1,λf hf=>⟨⟨(h.2 f hf).2,(h.2 f hf).1.2⟩,hv f hf⟩⟩
theorem OKF.join {a b:yC} (ha:OKF zpg a) (hb:OKF zpg b):OKF zpg (zbK a b):=(zbf5 ha.mf hb.mf).okf λf hf=>by
 obtain ⟨y,hy,e⟩:=ztK hf;rw [e];rcases hy with hy | hy
 ·exact (ha.2 y hy).2
 ·exact (hb.2 y hy).2
theorem zbgJ {a b:yB} (ha:QA a) (hb:QA b):QA (zeO a b):=⟨zQs _ _ ha.1,λt ht=>⟨zbbk b ha.pa.c hb.pa.c t ht,by
 obtain ⟨x,hx,e⟩:=zJK b a ha.1 ht;rw [e];rcases hx with hx | hx
 ·exact (ha.2 x hx).2
 ·exact (hb.2 x hx).2⟩⟩
theorem QA.nil:QA []:=⟨List.Pairwise.nil,λt ht=>by cases ht⟩
theorem zbgi {x:At} (h:zpg x=true):QA (zcT x):=⟨by simp [zcT],λt ht=>by
 simp only [zcT,qh] at ht; subst ht;refine ⟨⟨by simp,by simp⟩,by simp,λf hf=> ?_⟩
 rw [qh] at hf; subst hf;exact ⟨⟨by simp,λ_=>rfl⟩,h⟩⟩
theorem zbgS {a:yB} (h:(zmp a).2=0):zfs a=true/\zmp a=(a,0):=by
 unfold zmp at *;cases hw:zfs a with
 | true=>exact ⟨rfl,rfl⟩
 | false=>rw [hw] at h; simp at h
theorem zbhH {ok:Bool} {r:yB×Int} (h:(opR ok r).2=0):ok=true/\opR ok r=r:=by
 cases ok with
 | true=>exact ⟨rfl,rfl⟩
 | false=>simp [opR] at h
theorem zbgM {a b:yB} (h:(zkQ a b).2=0):(zU a=true/\zU b=true/\zU (zeO a b)=true)/\zkQ a b=(zeO a b,0):=by
 obtain ⟨h1,h2⟩:=zbhH h;rw [qc] at h1;unfold zkQ at h;rw [h2] at h;obtain ⟨h3,h4⟩:=zbgS h;exact ⟨⟨h1.1,h1.2,zvx.2 ⟨h3,zbgJ (z0I h1.1) (z0I h1.2)⟩⟩,h2.trans h4⟩
theorem zJH {a:yB} (h:zfs a=true):zmp a=(a,0):=by unfold zmp; rw [h]; rfl
theorem zbgl {a b:yB} (ha:zU a=true) (hb:zU b=true) (h:zfs (zeO a b)=true):zkQ a b=(zeO a b,0):=by
 unfold zkQ; rw [ha,hb,zJH h]; rfl
theorem zbam {a b:yB} (ha:zU a=true) (hb:zU b=true) (h:zfs (zt3 a b)=true):zLg a b=(zt3 a b,0):=by
 unfold zLg; rw [ha,hb,zJH h]; rfl
theorem z0S {x:At}:zpg x=true↔VA zU x:=zdm
theorem zbcd {x:At} (h:zpg x=true) (hw:zfs (zcT x)=true):zU (zcT x)=true:=zvx.2 ⟨hw,zbgi h⟩
def sbd {α β:Type} (x:Int⊕α) (k:α->Int⊕β):Int⊕β:=match x with
 | .inl e=>.inl e
 | .inr a=>k a
theorem zXN {α β:Type} (e:Int) (k:α->Int⊕β):sbd (.inl e) k=.inl e:=rfl
theorem zds {α β:Type} (a:α) (k:α->Int⊕β):sbd (.inr a) k=k a:=rfl
def opS (r:yB×Int):Int⊕yB:=if r.2=0 then .inr r.1 else .inl r.2
def ofS:Int⊕yB->yB×Int
 | .inl e=>([],e)
 | .inr a=>(a,0)
theorem zXR {r:yB×Int} (h:r.2=0\/r.1=[]):ofS (opS r)=r:=by
 obtain ⟨a,e⟩:=r;simp only at h;unfold opS;by_cases he:e=0
 ·subst he; simp [ofS]
 ·rw [if_neg he];rcases h with h | h
  ·exact absurd h he
  ·subst h; rfl
theorem z80 {a:yB}:opS (a,0)=.inr a:=rfl
def zBg (b:yB):Nat->yB->Int⊕yB
 | 0,p=>.inr p
 | n+1,p=>sbd (opS (zLg p b)) (zBg b n)
mutual
def zhP (to:RowID->yB):At->Int⊕yB
 | ⟨k,r,a,f,i,o,b⟩=>if k=0 then .inr (to r) else
  sbd (zln to a) λxs=>if k=1 then opS (zRc (xs.getD 0 default) (xs.getD 1 default)) else if k=2 then opS (zSx (xs.getD 0 default)) else if k=3 then opS (zRS (xs.getD 0 default)) else
   sbd (zhq to i) λis=>opS (zxU f is o b)
def zeA (to:RowID->yB):yC->yB->Int⊕yB
 | [],p=>.inr p
 | ⟨x,e⟩::r,p=>sbd (zhP to x) λb=>sbd (zBg b e.toNat p) λq=>zeA to r q
def zdw (to:RowID->yB):yB->yB->Int⊕yB
 | [],s=>.inr s
 | ⟨c,fs⟩::r,s=>sbd (zeA to fs (zBr c)) λp=>sbd (opS (zkQ s p)) λq=>zdw to r q
def zln (to:RowID->yB):yA->Int⊕yA
 | []=>.inr []
 | a::r=>sbd (zdw to a []) λb=>sbd (zln to r) λl=>.inr (b::l)
def zhq (to:RowID->yB):yD->Int⊕yD
 | []=>.inr []
 | ⟨v,a⟩::r=>sbd (zdw to a []) λb=>sbd (zhq to r) λl=>.inr (⟨v,b⟩::l)
end
variable (to:RowID->yB)
theorem zSP (p:yB):zeA to [] p=.inr p:=by rw [zeA]
theorem zPM (f:Fc) (r:yC) (p:yB):zeA to (f::r) p=sbd (zhP to f.At) λb=>sbd (zBg b f.Exp.toNat p) λq=>zeA to r q:=by cases f; rw [zeA]
theorem z5r (s:yB):zdw to [] s=.inr s:=by rw [zdw]
theorem z1c (t:Term) (r s:yB):zdw to (t::r) s=sbd (zeA to t.Fs (zBr t.Cf)) λp=>sbd (opS (zkQ s p)) λq=>zdw to r q:=by cases t; rw [zdw]
theorem zDI:zln to []=.inr []:=by rw [zln]
theorem zAC (a:yB) (r:yA):zln to (a::r)=sbd (zdw to a []) λb=>sbd (zln to r) λl=>.inr (b::l):=by rw [zln]
theorem zZw:zhq to []=.inr []:=by rw [zhq]
theorem zU3 (w:Wd) (r:yD):zhq to (w::r)=sbd (zdw to w.Ann []) λb=>sbd (zhq to r) λl=>.inr (⟨w.Value,b⟩::l):=by cases w; rw [zhq]
theorem z5L (x:At):zhP to x=if x.Kind=0 then .inr (to x.Row) else
  sbd (zln to x.Ag) λxs=>if x.Kind=1 then opS (zRc (xs.getD 0 default) (xs.getD 1 default)) else if x.Kind=2 then opS (zSx (xs.getD 0 default)) else if x.Kind=3 then opS (zRS (xs.getD 0 default)) else
   sbd (zhq to x.Items) λis=>opS (zxU x.Func is x.Op x.Bd):=by cases x; rw [zhP]
def GE {α:Type} (P:α->Prop):Int⊕α->Prop
 | .inl e=>e≠0
 | .inr a=>P a
abbrev GS:Int⊕yB->Prop:=GE okA
theorem zRN {r:yB×Int} (h:okR r):GS (opS r):=by
 unfold opS;by_cases he:r.2=0
 ·rw [if_pos he]; exact h.1
 ·rw [if_neg he]; exact he
theorem zMR {α β:Type} {P:α->Prop} {Q:β->Prop} {x:Int⊕α} {k:α->Int⊕β} (hx:GE P x) (hk:∀ a,P a->GE Q (k a)):GE Q (sbd x k):=by
 cases x with
 | inl e=>exact hx
 | inr a=>exact hk a hx
theorem z7x {b:yB} (hb:okA b):∀ (n:Nat) (p:yB),okA p->GS (zBg b n p)
 | 0,p,hp=>hp
 | n+1,p,hp=>zMR (zRN (zbad hp hb)) λq hq=>z7x hb n q hq
abbrev GL (n:Nat):Int⊕yA->Prop:=GE λl=>l.length=n/\∀ a∈l,okA a
abbrev GI (i:yD):Int⊕yD->Prop:=GE λl=>l.length=i.length/\∀ w∈l,okA w.Ann/\∃ v∈i,v.Value=w.Value
theorem zbcc (w:Wd):zF5 w↔zND w.Value/\zgE w.Ann/\w.Ann.length<=zZ:=by cases w; unfold zF5; exact Iff.rfl
theorem zbcI {k f o:Int} {r:RowID} {a:yA} {i:yD} {b:Value} (h1:wf3 k) (h2:zZX r) (h3:zw7 a/\a.length<=zZ) (h4:wf3 f) (h5:zsu i/\i.length<=zZ) (h6:wf3 o) (h7:zND b):zgB ⟨k,r,a,f,i,o,b⟩:=by
 unfold zgB; exact ⟨h1,h2,h3,h4,h5,h6,h7⟩
theorem z5T {f o:Int} {l:yD} {b:Value} (hl:l.length<=1000000) (h:∀ w∈l,okA w.Ann/\zND w.Value) (hf:wf3 f) (ho:wf3 o) (hb:zND b):okR (zxU f l o b):=by
 unfold zxU;cases hk:zz6 f l o b with
 | false=>exact ⟨zmr,.inr rfl⟩
 | true=>
  cases hv:l.all λw=>zU w.Ann with
  | false=>exact ⟨zmr,.inr rfl⟩
  | true=>
   simp only [Bool.and_self,Bool.not_true,cond_false];cases decide (0<(zdX l).length) with
   | true=>
    obtain ⟨tf,ts⟩:=zKF hl hk hv;have hr:zZ=140737488351232:=rfl;have hlen:(zdX l).length<=1000000:=by rw [z23]; exact Nat.le_trans (List.length_filter_le _ _) hl
    refine zJE ⟨⟨tf.mono (by omega),ts⟩,zFL _ λt ht=> ?_,by simp [zcT,zZ]⟩
    simp only [zcT,qh] at ht;subst ht;refine zWE ⟨by simp,by simp⟩ (λg hg=> ?_) (by simp)
    simp only [qh] at hg;subst hg;refine ⟨zbcI (zVA (zVt (by omega))) ⟨zqi,zqi⟩ ⟨by unfold zw7; trivial,by simp⟩ hf ⟨zRy _ λw hw=> ?_,by omega⟩ ho hb,⟨by simp,by simp⟩⟩
    have hm:=h w (zI4 hw).1;exact (zbcc w).2 ⟨hm.2,hm.1.2⟩
   | false=>
    cases f==0&&zNv o (zd8 0 b.Int) with
    | true=>exact ⟨zXL 1 (by omega),.inl rfl⟩
    | false=>exact ⟨zmr,.inl rfl⟩
theorem zSC {l:yA} (h:∀ a∈l,okA a) (i:Nat):okA (l.getD i default):=by
 by_cases hi:i<l.length
 ·exact h _ (zn hi)
 ·rw [List.getD_eq_getElem?_getD,List.getElem?_eq_none (by omega)]; exact zmr
def okT (to:RowID->yB):Prop:=∀ r,zZX r->okA (to r)
variable {to}
mutual
theorem z5n (ht:okT to):∀ (x:At) (d:Nat),zgB x->zc7 (zp d) x->GS (zhP to x)
 | ⟨k,r,a,f,i,o,b⟩=>λd hw hi=>by
  have hw':=zsD hw;simp only at hw';obtain ⟨⟨ha,hal⟩,⟨hit,hil⟩,hb,hk,hr,hf,ho⟩:=hw';obtain ⟨⟨l1,l2,_⟩,f1,f2⟩:=hi;simp only at l1 l2 f1 f2;rw [zhP];by_cases hk0:k=0
  ·rw [if_pos hk0]; exact ht r hr
  ·rw [if_neg hk0];have hA:=zVK ht a d (λx hx=>(zjN ha x hx).1) f1
   refine zMR hA λxs has=> ?_
   have h0:=zSC has.2 0;have h1:=zSC has.2 1;split
   ·exact zRN (zbaD h0 h1)
   ·split
    ·exact zRN (zbaX h0)
    ·split
     ·exact zRN (zbah h0)
     ·have hI:=zSc ht i d (λx hx=>(zjz hit x hx).2.1) λw hw=>(f2 w hw).2
      refine zMR hI λis his=> ?_
      refine zRN (z5T (by omega) (λw hw=>⟨(his.2 w hw).1, ?_⟩) hf ho hb)
      obtain ⟨v,hv,e⟩:=(his.2 w hw).2;rw [<- e]; exact (zjz hit v hv).1
theorem zKv (ht:okT to):∀ (l:yC) (d:Nat),(∀ f∈l,zgB f.At/\zc7 (zp d) f.At)->∀ p,okA p->GS (zeA to l p)
 | [],_,_,p,hp=>by rw [zeA]; exact hp
 | ⟨x,e⟩::r,d,h,p,hp=>by
  rw [zeA];have hx:=z5n ht x d (h ⟨x,e⟩ (by simp)).1 (h ⟨x,e⟩ (by simp)).2
  refine zMR hx λb hb=>zMR (z7x hb _ p hp) λq hq=> ?_
  exact zKv ht r d (λf hf=>h f (by simp [hf])) q hq
theorem zRq (ht:okT to):∀ (a:yB) (d:Nat),zgE a->(∀ t∈a,∀ f∈t.Fs,zc7 (zp d) f.At)->∀ s,okA s->GS (zdw to a s)
 | [],_,_,_,s,hs=>by rw [zdw]; exact hs
 | ⟨c,fs⟩::r,d,hw,hi,s,hs=>by
  rw [zdw];have hwt:=ztf hw ⟨c,fs⟩ (by simp)
  have hp:=zKv ht fs d (λf hf=>⟨(zq4 (zoc (zvB hwt).2.1 f hf)).1,hi ⟨c,fs⟩ (by simp) f hf⟩) (zBr c) (zbcy c)
  refine zMR hp λp hp=>zMR (zRN (z4P hs hp)) λq hq=> ?_
  exact zRq ht r d (zFL _ λt ht=>ztf hw t (by simp [ht])) (λt ht=>hi t (by simp [ht])) q hq
theorem zVK (ht:okT to):∀ (l:yA) (d:Nat),(∀ a∈l,zgE a)->(∀ a∈l,zp d a)->GL l.length (zln to l)
 | [],_,_,_=>by rw [zln]; exact ⟨rfl,λa ha=>by cases ha⟩
 | a::r,d,h,hi=>by
  rw [zln];have hf:=hi a (by simp)
  have h1:GS (zdw to a []):=by
   cases d with
   | zero=>exact hf.elim
   | succ d=>exact zRq ht a d (h a (by simp)) (λt ht f hf'=>(hf.2 t ht).2 f hf') [] zmr
  have h2:=zVK ht r d (λb hb=>h b (by simp [hb])) (λb hb=>hi b (by simp [hb]))
  revert h1 h2;cases zdw to a [] with
  | inl e=>exact λh _=>h
  | inr b=>
   cases zln to r with
   | inl e=>exact λ_ h=>h
   | inr l=>
    intro h1 h2;refine ⟨by simp [h2.1],λx hx=> ?_⟩
    rcases qd.1 hx with rfl | hx
    ·exact h1
    ·exact h2.2 x hx
theorem zSc (ht:okT to):∀ (l:yD) (d:Nat),(∀ w∈l,zgE w.Ann)->(∀ w∈l,zp d w.Ann)->GI l (zhq to l)
 | [],_,_,_=>by rw [zhq]; exact ⟨rfl,λa ha=>by cases ha⟩
 | ⟨v,a⟩::r,d,h,hi=>by
  rw [zhq];have hf:zp d a:=hi ⟨v,a⟩ (by simp)
  have h1:GS (zdw to a []):=by
   cases d with
   | zero=>exact hf.elim
   | succ d=>exact zRq ht a d (h ⟨v,a⟩ (by simp)) (λt ht f hf'=>(hf.2 t ht).2 f hf') [] zmr
  have h2:=zSc ht r d (λb hb=>h b (by simp [hb])) (λb hb=>hi b (by simp [hb]))
  revert h1 h2;cases zdw to a [] with
  | inl e=>exact λh _=>h
  | inr b=>
   cases zhq to r with
   | inl e=>exact λ_ h=>h
   | inr l=>
    intro h1 h2;refine ⟨by simp [h2.1],λx hx=> ?_⟩
    rcases qd.1 hx with rfl | hx
    ·exact ⟨h1,⟨v,a⟩,by simp,rfl⟩
    ·obtain ⟨h3,w,hw,e⟩:=h2.2 x hx;exact ⟨h3,w,by simp [hw],e⟩
end
end Go.Proofs.YtoknknbmfmddbaaGreatDoor
namespace Go.Proofs.YtoknknbmfmddbaaGreatDoor
open Go Go.Ab
end Go.Proofs.YtoknknbmfmddbaaGreatDoor
/- Substitution: both sides compute the same. -/
namespace Go.Proofs.YtoknknbmfmddbaaGreatDoor
open Go Go.Ab
def toA:yE->RowID->yB
 | [],r=>zvN r
 | b::l,r=>if b.Row=r then b.To else toA l r
def okB (l:yE):Prop:=l.length<=1000/\∀ b∈l,okA b.To
theorem zbdk:∀ {l:yE},(∀ b∈l,okA b.To)->okT (toA l)
 | [],_,r,hr=>by rw [toA]; exact zbgA hr
 | b::l,h,r,hr=>by
  rw [toA];split
  ·exact h b (by simp)
  ·exact zbdk (λc hc=>h c (by simp [hc])) r hr
theorem zbe8 (a b:RowID):(a.Table==b.Table&&(a.Seq==b.Seq&&true))=decide (a=b):=by
 obtain ⟨t,s⟩:=a; obtain ⟨t',s'⟩:=b;rw [Bool.and_true,zf8,zf8, <- Bool.decide_and];congr 1;simp
theorem zba7:∀ (l:yE) (r:RowID) (i:Nat),(ixf (λb=>decide (b.Row=r)) l i= -1/\toA l r=zvN r)\/∃ j,j<l.length/\ixf (λb=>decide (b.Row=r)) l i=((i+j:Nat):Int)/\toA l r=(l.getD j default).To
 | [],r,i=>.inl ⟨rfl,rfl⟩
 | b::l,r,i=>by
  rw [ixf,toA];by_cases h:b.Row=r
  ·rw [decide_eq_true h,cond_true,if_pos h];exact .inr ⟨0,by simp,rfl,rfl⟩
  ·rw [decide_eq_false h,cond_false,if_neg h];rcases zba7 l r (i+1) with ⟨h1,h2⟩ | ⟨j,h1,h2,h3⟩
   ·exact .inl ⟨h1,h2⟩
   ·exact .inr ⟨j+1,by simp; omega,by rw [h2]; congr 1; omega,h3⟩
theorem zbhS {l:yE} (h:okB l) (r:RowID):zhQ r l=(true,toA l r):=by
 unfold zhQ zw9
 have hi:zcw l r=(true,ixf (λb=>decide (b.Row=r)) l 0):=by
  have e:zcw l r=IH (λ(g:RowID×Unit) x=>zfU x g.1) (l.length+(Int.ofNat l.length).toNat +Int.toNat (0:Int)+(1:Nat)) (r,()) l:=rfl
  rw [e]
  exact zba9 _ _ _ _ _ (by have:=h.1; omega) (λx _=>by
   unfold zfU ztR;rw [Wy.fin_k,zbe8]) (by omega)
 rw [Wy.fin_bn,hi];rcases zba7 l r 0 with ⟨h1,h2⟩ | ⟨j,h1,h2,h3⟩
 ·rw [h1,h2];simp only [cond_true,Wy.fin_i,Wy.fin_bn,Wy.fin_k,(zbgD r).1];rfl
 ·rw [Nat.zero_add] at h2;rw [h2,h3];have hm:=h.2 _ (zn h1);have e1:decide ((j:Int)≥(0:Int))=true:=by simp
  simp only [cond_true,Wy.fin_i,Wy.fin_bn,Wy.fin_k,e1,tT,h1,zGI hm.1.1 (show (12:Nat)<=100 by omega)]
def RS (s:Int⊕yB) (e:Int) (p:yB):Prop:=match s with
 | .inl x=>e=x/\x≠0
 | .inr q=>e=0/\p=q
theorem zbhE (r:yB×Int):RS (opS r) r.2 r.1:=by
 unfold opS;by_cases h:r.2=0
 ·rw [if_pos h]; exact ⟨h,rfl⟩
 ·rw [if_neg h]; exact ⟨rfl,h⟩
theorem zbev (b:yB) (s:Int⊕yB):sbd s (zBg b 0)=s:=by cases s <;>rfl
section
variable (g:At->yE->Bool×(yB×Int)) (to:yE)
theorem zbbI (b:yB) (hb:okA b) (t16:yB) (t17 t18:Int) (t26:yC) (t27 t28:Int) (N:Nat) (hN:N<=1000000) (sum:yB):
  ∀ (n i:Nat) (e:Int) (p:yB) (s:Int⊕yB),N<i+n->i<=N->GS s->RS s e p->∃ e' p',zqP g n to b e t16 t17 t18 t26 t27 t28 N i sum p=(true,(to,e',t16,t17,t18,t26,t27,t28,sum,p'))/\RS (sbd s (zBg b (N - i))) e' p'
 | 0,i,e,p,s,h1,h2,_,_=>by omega
 | n+1,i,e,p,s,h1,h2,hs,hr=>by
  show ∃ e' p',(zqA g to b e t16 t17 t18 t26 t27 t28 N i sum p).ev (λx y=>zqP g n x.1.1.1 x.2.2.2.1 x.2.2.2.2.1 x.2.2.2.2.2.1 x.2.2.2.2.2.2.1 x.2.2.2.2.2.2.2.1 x.2.2.2.2.2.2.2.2.1 x.2.2.2.2.2.2.2.2.2.1 x.2.2.2.2.2.2.2.2.2.2.1 x.2.2.2.2.2.2.2.2.2.2.2.1 x.2.2.2.2.2.2.2.2.2.2.2.2.1 y.1 y.2.1) (λr=>(true,r)) (false,default)=_/\_
  unfold zqA;by_cases hi:i<N
  ·have hk:N - i=(N - (i+1))+1:=by omega
   cases s with
   | inl x=>
    obtain ⟨rfl,hx⟩:=hr;have he:(e==(0:Int))=false:=by simp [hx]
    simp only [Wy.ev_i,Wy.ev_k,Wy.ev_h,Wy.ev_bn,Wy.ev_d,zAM,hi,decide_true,cond_true,he,cond_false,zw (show i<4611686018427387904 by omega)]
    exact zbbI b hb t16 t17 t18 t26 t27 t28 N hN sum n (i+1) e p (.inl e) (by omega) (by omega) hs ⟨rfl,hx⟩
   | inr q=>
    obtain ⟨rfl,rfl⟩:=hr;have hp:okA p:=hs;simp only [Wy.ev_i,Wy.ev_k,Wy.ev_h,Wy.ev_bn,Wy.ev_d,zAM,hi,decide_true,cond_true,(zbhf hp hb).1,zw (show i<4611686018427387904 by omega),show ((0:Int)==0)=true from rfl]
    rw [hk];exact zbbI b hb t16 t17 t18 t26 t27 t28 N hN sum n (i+1) (zLg p b).2 (zLg p b).1 (opS (zLg p b)) (by omega) (by omega) (zRN (zbad hp hb)) (zbhE _)
  ·have hk:N - i=0:=by omega
   simp only [Wy.ev_i,Wy.ev_k,zAM,hi,decide_false,cond_false];rw [hk,zbev];exact ⟨e,p,rfl,hr⟩
def AG (l:yC):Prop:=∀ f∈l,(g f.At to=(true,ofS (zhP (toA to) f.At))/\GS (zhP (toA to) f.At))/\0<=f.Exp/\f.Exp<=1000000
theorem zbg1 {s:Int⊕yB} (h:GS s):okA (ofS s).1:=by
 cases s with
 | inl e=>exact zmr
 | inr a=>exact h
theorem zbdz {s:Int⊕yB} (h:GS s) (p:yB):RS (sbd s λ_=>.inr p) (ofS s).2 p:=by
 cases s with
 | inl e=>exact ⟨rfl,h⟩
 | inr a=>exact ⟨rfl,rfl⟩
theorem zbee {s:Int⊕yB} (h:GS s) {p:yB} (hp:okA p):GS (sbd s λ_=>.inr p):=zMR h λ_ _=>hp
theorem zbcA {s:Int⊕yB} (p:yB) (N:Nat):sbd (sbd s λ_=>.inr p) (zBg (ofS s).1 N)=sbd s λb=>zBg b N p:=by
 cases s <;>rfl
theorem zbgV (l:yC) (hl:l.length<=1000000) (hg:AG g to l) (t16:yB) (t17 t18:Int) (sum:yB):
  ∀ (n i:Nat) (p:yB),l.length<i+n->i<=l.length->okA p->zr6 g n to t16 t17 t18 l l.length i sum p=(true,match zeA (toA to) (l.drop i) p with
   | .inl e=>.inl e
   | .inr q=>.inr (to,t16,t17,t18,sum,q))
 | 0,i,p,h1,h2,_=>by omega
 | n+1,i,p,h1,h2,hp=>by
  show (zr3 g to t16 t17 t18 l l.length i sum p).ev (λx y=>zr6 g n x.1.1.1 x.2.2.2.1 x.2.2.2.2.1 x.2.2.2.2.2.1 x.2.2.2.2.2.2.1 x.2.2.2.2.2.2.2.1 x.2.2.2.2.2.2.2.2.1 y.1 y.2.1) (λr=>(true,r)) (false,.inl default)=_
  unfold zr3;by_cases hi:i<l.length
  ·obtain ⟨⟨hf,hG⟩,e0,e1⟩:=hg _ (zn hi);obtain ⟨N,hN⟩:∃ N:Nat,(l.getD i default).Exp=(N:Int):=⟨_,(Int.toNat_of_nonneg e0).symm⟩
   obtain ⟨e',p',h11,hrs⟩:=zbbI g to (ofS (zhP (toA to) (l.getD i default).At)).1 (zbg1 hG) t16 t17 t18 l l.length i N (by omega) sum
    (to.length+(ofS (zhP (toA to) (l.getD i default).At)).1.length+(ofS (zhP (toA to) (l.getD i default).At)).2.toNat +t16.length+t17.toNat +t18.toNat +l.length+(l.length:Int).toNat +(i:Int).toNat +(N:Int).toNat +Int.toNat (0:Int)+sum.length+p.length+(1:Nat)) 0 _ p _ (by omega) (by omega) (zbee hG hp) (zbdz hG p)
   rw [zbcA,Nat.sub_zero] at hrs;rw [show ((0:Nat):Int)=(0:Int) from rfl] at h11
   rw [zbg hi,zPM,hN,Int.toNat_natCast];simp only [Wy.ev_i,Wy.ev_k,Wy.ev_h,Wy.ev_bn,Wy.ev_d,tT,hi,At.eta,hf,hN,zpE];rw [show Int.toNat (l.length:Int)=l.length from Int.toNat_natCast _,show Int.toNat (i:Int)=i from Int.toNat_natCast _,show Int.toNat (N:Int)=N from Int.toNat_natCast _] at h11
   rw [h11];have hS:=hG;revert hrs hS;cases zhP (toA to) (l.getD i default).At with
   | inl x=>
    rintro ⟨rfl,hx⟩ _
    simp [hx,zXN]
   | inr b=>
    intro hrs hb;simp only [zds] at hrs ⊢;have hq:=z7x (b:=b) hb N p hp;revert hrs hq;cases zBg b N p with
    | inl x=>
     rintro ⟨rfl,hx⟩ _
     simp [hx,zXN]
    | inr q=>
     rintro ⟨rfl,rfl⟩ hq
     simp only [zds,decide_true,Bool.not_true,cond_true,cond_false,zw (show i<4611686018427387904 by omega)]
     exact zbgV l hl hg t16 t17 t18 sum n (i+1) p' (by omega) (by omega) hq
  ·simp only [Wy.ev_i,Wy.ev_k,Wy.ev_h,Wy.ev_bn,Wy.ev_d,tT,hi];rw [zco hi,zSP]
theorem zbhy (l:yB) (hl:l.length<=1000000) (hg:∀ t∈l,t.Fs.length<=1000000/\AG g to t.Fs) (hok:∀ t∈l,∀ p,okA p->GS (zeA (toA to) t.Fs p)):
  ∀ (n i:Nat) (s:yB),l.length<i+n->i<=l.length->okA s->zr5 g n to l l.length i s=(true,zdw (toA to) (l.drop i) s)
 | 0,i,s,h1,h2,_=>by omega
 | n+1,i,s,h1,h2,hs=>by
  show (zrU g to l l.length i s).ev (λx y=>zr5 g n x.1.1.1 x.2.2.1 x.2.2.2.1 x.2.2.2.2.1 y.1) (λr=>(true,r)) (false,.inl default)=_
  unfold zrU;by_cases hi:i<l.length
  ·have ht:=hg _ (zn hi);have hc:=zbcy (l.getD i default).Cf;have h7:=zbgV g to (l.getD i default).Fs ht.1 ht.2 l l.length i s (to.length+l.length+(l.length:Int).toNat +(i:Int).toNat +(l.getD i default).Fs.length+((l.getD i default).Fs.length:Int).toNat +Int.toNat (0:Int)+s.length+(zBr (l.getD i default).Cf).length+(1:Nat)) 0 (zBr (l.getD i default).Cf) (by omega) (by omega) hc
   rw [show ((0:Nat):Int)=(0:Int) from rfl,List.drop_zero] at h7
   simp only [Int.toNat_natCast] at h7;rw [zbg hi,z1c];simp only [Wy.ev_i,Wy.ev_k,Wy.ev_h,Wy.ev_bn,Wy.ev_d,tT,hi,(zbei _).1];rw [h7];have hS:=hok _ (zn hi) _ hc;revert hS;cases zeA (toA to) (l.getD i default).Fs (zBr (l.getD i default).Cf) with
   | inl e=>intro _; rfl
   | inr p=>
    intro hp;have hp:okA p:=hp;simp only [zds,isL,getR,cond_true,cond_false,(zbcq hs hp).1,zpE];have hG:=z4P hs hp;unfold opS;by_cases he:(zkQ s p).2=0
    ·rw [if_pos he,decide_eq_true he,zds,zw (show i<4611686018427387904 by omega)]
     exact zbhy l hl hg hok n (i+1) _ (by omega) (by omega) hG.1
    ·rw [if_neg he,decide_eq_false he]; rfl
  ·simp only [Wy.ev_i,Wy.ev_k,Wy.ev_h,Wy.ev_bn,Wy.ev_d,tT,hi];rw [zco hi,z5r]
theorem zbit (a:yB) (hl:a.length<=1000000) (hg:∀ t∈a,t.Fs.length<=1000000/\AG g to t.Fs) (hok:∀ t∈a,∀ p,okA p->GS (zeA (toA to) t.Fs p)):zlr g a to=(true,ofS (zdw (toA to) a [])):=by
 unfold zlr zAN;have h3:=zbhy g to a hl hg hok (to.length+a.length+(Int.ofNat a.length).toNat +Int.toNat (0:Int)+(0:Nat)+(1:Nat)) 0 [] (by omega) (by omega) zmr
 rw [show ((0:Nat):Int)=(0:Int) from rfl,List.drop_zero] at h3
 rw [Wy.fin_bn,show Int.ofNat a.length=(a.length:Int) from rfl] at *
 rw [h3];cases zdw (toA to) a [] <;>rfl
end
section
variable (g:yB->yE->Bool×(yB×Int)) (to:yE)
theorem zbgF (x:At) (l:yA) (hl:l.length<=1000000) (hg:∀ a∈l,g a to=(true,ofS (zdw (toA to) a []))/\GS (zdw (toA to) a [])):
  ∀ (n i:Nat) (xs:yA),l.length<i+n->i<=l.length->xs.length<=i->zjh g n to l l.length i x xs=(true,match zln (toA to) (l.drop i) with
   | .inl e=>.inl e
   | .inr ys=>.inr (to,x,xs++ys))
 | 0,i,xs,h1,h2,_=>by omega
 | n+1,i,xs,h1,h2,hx=>by
  have hreach:zA=70368744177664:=rfl;show (zns g to l l.length i x xs).ev (λx y=>zjh g n x.1.1.1 x.2.2.2.1 x.2.2.2.2.1 x.2.2.2.2.2.1 y.1 y.2.1) (λr=>(true,r)) (false,.inl default)=_
  unfold zns;by_cases hi:i<l.length
  ·obtain ⟨hf,hG⟩:=hg _ (zn hi);have hb:decide ((xs.length+1)*24<=zA)=true:=by simp only [qe]; omega
   rw [zbg hi,zAC];simp only [Wy.ev_i,Wy.ev_k,Wy.ev_h,Wy.ev_bn,Wy.ev_d,tT,hi,hf,zpE,List.length_singleton,hb];revert hG;cases zdw (toA to) (l.getD i default) [] with
   | inl e=>intro he; simp [ofS,show e≠0 from he,zXN]
   | inr b=>
    intro _;simp only [ofS,decide_true,Bool.not_true,cond_false,zds,zw (show i<4611686018427387904 by omega)]
    rw [zbgF x l hl hg n (i+1) (xs++[b]) (by omega) (by omega) (by simp; omega)]
    cases zln (toA to) (l.drop (i+1)) with
    | inl e=>rfl
    | inr ys=>simp [zds]
  ·simp only [Wy.ev_i,Wy.ev_k,Wy.ev_h,Wy.ev_bn,Wy.ev_d,tT,hi];rw [zco hi,zDI]; simp
theorem zbeJ (x:At) (l:yD) (hl:l.length<=1000000) (hg:∀ w∈l,g w.Ann to=(true,ofS (zdw (toA to) w.Ann []))/\GS (zdw (toA to) w.Ann [])):
  ∀ (n i:Nat) (xs:yD),l.length<i+n->i<=l.length->xs.length<=i->ziz g n to l l.length i x xs=(true,match zhq (toA to) (l.drop i) with
   | .inl e=>.inl e
   | .inr ys=>.inr (x,xs++ys))
 | 0,i,xs,h1,h2,_=>by omega
 | n+1,i,xs,h1,h2,hx=>by
  have hreach:zA=70368744177664:=rfl;show (zmx g to l l.length i x xs).ev (λx y=>ziz g n x.1.1.1 x.2.2.2.1 x.2.2.2.2.1 x.2.2.2.2.2.1 y.1 y.2.1) (λr=>(true,r)) (false,.inl default)=_
  unfold zmx;by_cases hi:i<l.length
  ·obtain ⟨hf,hG⟩:=hg _ (zn hi);have hb:decide ((xs.length+1)*56<=zA)=true:=by simp only [qe]; omega
   rw [zbg hi,zU3];simp only [Wy.ev_i,Wy.ev_k,Wy.ev_h,Wy.ev_bn,Wy.ev_d,tT,hi,hf,zpE,List.length_singleton,hb];revert hG;cases zdw (toA to) (l.getD i default).Ann [] with
   | inl e=>intro he; simp [ofS,show e≠0 from he,zXN]
   | inr b=>
    intro _;simp only [ofS,decide_true,Bool.not_true,cond_false,zds,zw (show i<4611686018427387904 by omega)]
    rw [zbeJ x l hl hg n (i+1) (xs++[WO.mk (l.getD i default).Value b]) (by omega) (by omega) (by simp; omega)]
    cases zhq (toA to) (l.drop (i+1)) with
    | inl e=>rfl
    | inr ys=>simp [zds]
  ·simp only [Wy.ev_i,Wy.ev_k,Wy.ev_h,Wy.ev_bn,Wy.ev_d,tT,hi];rw [zco hi,zZw]; simp
structure XG (x:At):Prop where
 va:zpg x=true
 lens:x.Ag.length<=1000000/\x.Items.length<20
 ga:∀ a∈x.Ag,g a to=(true,ofS (zdw (toA to) a []))/\GS (zdw (toA to) a [])
 gi:∀ w∈x.Items,g w.Ann to=(true,ofS (zdw (toA to) w.Ann []))/\GS (zdw (toA to) w.Ann [])
 sa:GL x.Ag.length (zln (toA to) x.Ag)
 si:GI x.Items (zhq (toA to) x.Items)
 wf:zgB x
theorem zbfL {f o:Int} {i l:yD} {b:Value} (h20:i.length<20) (hl:l.length=i.length/\∀ w∈l,okA w.Ann/\∃ v∈i,v.Value=w.Value):zn9 f l o b=(true,zxU f l o b)/\zRQ f l o b=(true,zxU f l o b):=by
 have h1:∀ w∈l,zp 12 w.Ann/\zN w.Ann<=4611686018427387904:=λw hw=>(hl.2 w hw).1.1
 have h2:(l.filter zmv).length<20:=Nat.lt_of_le_of_lt (List.length_filter_le _ _) (by omega)
 exact ⟨zbf0 f l o b (by omega) h1 (by omega) h2,zbez f l o b (by omega) h1 (by omega)⟩
theorem zbcx {x:At} (h:zpg x=true):(x.Kind=1->x.Ag.length=2)/\(x.Kind=2\/x.Kind=3->x.Ag.length=1):=by
 cases z0S.1 h <;>simp
theorem zbfP (hto:okB to) (x:At) (h:XG g to x):zhY g x to=(true,ofS (zhP (toA to) x)):=by
 unfold zhY zw2;have h5:=zbgF g to x x.Ag h.lens.1 h.ga (to.length+x.Ag.length+(Int.ofNat x.Ag.length).toNat +Int.toNat (0:Int)+x.Ag.length+x.Items.length+(0:Nat)+(1:Nat)) 0 [] (by omega) (by omega) (by simp)
 rw [show ((0:Nat):Int)=(0:Int) from rfl,List.drop_zero] at h5
 have h5':zjh g (to.length+x.Ag.length+(Int.ofNat x.Ag.length).toNat +Int.toNat (0:Int)+x.Ag.length+x.Items.length+(0:Nat)+(1:Nat)) to x.Ag (Int.ofNat x.Ag.length) 0 x []=_:=h5;have h21:=zbeJ g to x x.Items (by have:=h.lens.2; omega) h.gi (to.length+x.Items.length+(Int.ofNat x.Items.length).toNat +Int.toNat (0:Int)+x.Ag.length+x.Items.length+(0:Nat)+(1:Nat)) 0 [] (by omega) (by omega) (by simp)
 rw [show ((0:Nat):Int)=(0:Int) from rfl,List.drop_zero] at h21
 have h21':ziz g (to.length+x.Items.length+(Int.ofNat x.Items.length).toNat +Int.toNat (0:Int)+x.Ag.length+x.Items.length+(0:Nat)+(1:Nat)) to x.Items (Int.ofNat x.Items.length) 0 x []=_:=h21;rw [At.eta,z5L];have b0:=zf8 x.Kind 0;have b1:=zf8 x.Kind 1;have b2:=zf8 x.Kind 2;have b3:=zf8 x.Kind 3;simp only [Wy.fin_i,Wy.fin_bn,Wy.fin_k,zbhS hto,cond_true,h5',List.nil_append];by_cases hk0:x.Kind=0
 ·rw [b0,decide_eq_true hk0,if_pos hk0]; rfl
 ·rw [b0,decide_eq_false hk0,if_neg hk0,cond_false];have hA:=h.sa;have hlen:=zbcx h.va;revert hA;cases zln (toA to) x.Ag with
  | inl e=>intro _; rfl
  | inr xs=>
   intro hxs;have hxl:xs.length=x.Ag.length/\∀ a∈xs,okA a:=hxs;have o0:=zSC hxl.2 0;have o1:=zSC hxl.2 1;simp only [isL,getR,cond_false,zds];by_cases hk1:x.Kind=1
   ·have:=hlen.1 hk1;rw [b1,decide_eq_true hk1,if_pos hk1];simp only [cond_true,show Int.toNat (0:Int)=0 from rfl,show Int.toNat (1:Int)=1 from rfl,(zbdA o0 o1).1,zXR (zbaD o0 o1).2]
    simp [hxl.1,this]
   ·rw [b1,decide_eq_false hk1,if_neg hk1,cond_false];by_cases hk2:x.Kind=2
    ·have:=hlen.2 (.inl hk2);rw [b2,decide_eq_true hk2,if_pos hk2];simp only [cond_true,show Int.toNat (0:Int)=0 from rfl,show Int.toNat (1:Int)=1 from rfl,(zbd4 o0).1,zXR (zbaX o0).2]
     simp [hxl.1,this]
    ·rw [b2,decide_eq_false hk2,if_neg hk2,cond_false];by_cases hk3:x.Kind=3
     ·have:=hlen.2 (.inr hk3);rw [b3,decide_eq_true hk3,if_pos hk3];simp only [cond_true,show Int.toNat (0:Int)=0 from rfl,show Int.toNat (1:Int)=1 from rfl,(zbcW o0).1,zXR (zbah o0).2]
      simp [hxl.1,this]
     ·rw [b3,decide_eq_false hk3,if_neg hk3,cond_false,At.eta,h21'];have hI:=h.si;revert hI;cases zhq (toA to) x.Items with
      | inl e=>intro _; rfl
      | inr is=>
       intro his;have ht:=zbfL (f:=x.Func) (o:=x.Op) (b:=x.Bd) h.lens.2 his;simp only [cond_true,cond_false,List.nil_append,ht.1,zds];have hw:=zsD h.wf;have hl:is.length=x.Items.length/\∀ w∈is,okA w.Ann/\∃ v∈x.Items,v.Value=w.Value:=his
       rw [zXR (z5T (by have:=h.lens.2; omega) (λw hw'=>⟨(hl.2 w hw').1,by
        obtain ⟨v,hv,e⟩:=(hl.2 w hw').2;rw [<- e]; exact (zjz hw.2.1.1 v hv).1⟩) hw.2.2.2.2.2.1 hw.2.2.2.2.2.2 hw.2.2.1).2]
end
theorem zbd9 {a b:yB} (ha:okA a) (hb:okA b):zy6 a b=(true,zkQ a b):=by
 unfold zy6 zNT zkQ;simp only [Wy.fin_bn,Wy.fin_i,Wy.fin_k,ha.rvalid,hb.rvalid,cond_true];cases va:zU a with
 | false=>first | trivial | rfl
 | true=>
  cases vb:zU b with
  | false=>first | trivial | rfl
  | true=>
   obtain ⟨sa,la,ta⟩:=ztQ va ha.2.1;obtain ⟨sb,lb,tb⟩:=ztQ vb hb.2.1;have ga:∀ t∈a,GT t:=λt ht=>(ta t ht).1
   have gb:∀ t∈b,GT t:=λt ht=>(tb t ht).1
   have hsl:(zeO a b).length<=1000000:=by have:=zFi b a; omega
   obtain ⟨f1,f2⟩:=z2d hsl (zKA b a sa ga gb);simp only [Bool.not_true,cond_false,Bool.and_self,zbaT a b ga gb sa la lb,zJM f1 (by omega:10<=100) f2,cond_true] <;>first | trivial | rfl
end Go.Proofs.YtoknknbmfmddbaaGreatDoor
end
