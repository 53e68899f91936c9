/- Texts of this claim, joined (the program, its functions in plain words, and what they compute). -/
import Derived.Test.YtoknknbmfmddbaaGreatDoorGC9
set_option autoImplicit false
set_option linter.unusedVariables false
set_option linter.unusedSectionVars false
set_option linter.unusedSimpArgs false
set_option maxRecDepth 1000000
set_option maxHeartbeats 0
/- The operations of both sides. -/
noncomputable section
namespace Go.Proofs.YtoknknbmfmddbaaGreatDoor
open Go Go.Ab
theorem zOm {B:Nat}:∀ l:yC,(∀ f∈l,zeR f.At<=B)->zbH l<=l.length*B
 | [],_=>by rw [zia]; simp
 | f::r,h=>by
  have h1:=h f (by simp)
  have h2:=zOm r λg hg=>h g (by simp [hg])
  rw [zcR,qf,Nat.add_mul]; omega
theorem z0E {B:Nat}:∀ l:yB,(∀ t∈l,1+t.Fs.length+zbH t.Fs<=B)->zN l<=l.length*B
 | [],_=>by rw [zuD]; simp
 | f::r,h=>by
  have h1:=h f (by simp)
  have h2:=z0E r λg hg=>h g (by simp [hg])
  rw [zfq,qf,Nat.add_mul]; omega
theorem z1l {l:yB} (hl:l.length<=1000000) (h:∀ t∈l,GT t):zo 10 l/\zN l<=4611686018427387904:=by
 refine ⟨⟨hl,λt ht=>(h t ht).fine⟩, ?_⟩
 refine Nat.le_trans (z0E (B:=4195330000) l λt ht=> ?_) (by have:=Nat.mul_le_mul hl (Nat.le_refl 4195330000); omega)
 have hg:=h t ht;have h1:=zOm (B:=4195328) t.Fs λf hf=>zXO (hg.2.2 f hf).1.1 (hg.2.2 f hf).1.2.2
 have:=Nat.mul_le_mul hg.2.1 (Nat.le_refl 4195328);have:=hg.2.1;omega
theorem z6e {t:Term} (ht:GT t) {l:yB} (hs:Srs l) (h:∀ x∈l,GT x):∀ x∈ziD t l,GT x:=λx hx=>by
 have hc:=zbaI ht.1 (λy hy=>(h y hy).1) x hx
 rcases (zNW hs).1 hx with ⟨h1,_⟩ | ⟨h1,_⟩
 ·exact h x h1
 ·exact ⟨hc,by rw [h1]; exact ht.2⟩
theorem zJV:∀ (b a:yB),Srs a->(∀ x∈a,GT x)->(∀ x∈b,GT x)->∀ x∈zeC a b,GT x
 | [],_,_,ha,_=>ha
 | t::r,a,hs,ha,hb=>zJV r (ziD t a) (zAO hs) (z6e (hb t (by simp)) hs ha) λx hx=>hb x (by simp [hx])
theorem zQ4 {x y:Term} (hx:VT x) (hy:VT y):GT (zk7 x y):=by
 obtain ⟨gx,sx,lx,ex⟩:=hx;obtain ⟨gy,sy,ly,ey⟩:=hy;refine ⟨(z1w gx.1 gy.1).1,by have:=zJf x.Fs y.Fs; show (zbK x.Fs y.Fs).length<=1000; omega,λf hf=> ?_⟩
 obtain ⟨g,hg,e⟩:=zsU hf;have hb:=zIM (B:=64) (λz hz=>⟨(gx.2.2 z hz).2.1,(ex z hz).2⟩) (λz hz=>⟨(gy.2.2 z hz).2.1,(ey z hz).2⟩) hf
 have hv:(zdU (zbz 9) g.At=true/\zhD g.At/\g.At.Items.length<=1024):=by
  rcases hg with hg | hg
  ·exact (gx.2.2 g hg).1
  ·exact (gy.2.2 g hg).1
 exact ⟨by rw [e]; exact hv,hb.1,by omega⟩
theorem zYI {a b:yB} (ha:∀ t∈a,VT t) (hb:∀ t∈b,VT t):∀ t∈zfD a b,GT t:=λt ht=>by
 obtain ⟨x,hx,y,hy,rfl⟩:=z3o ht;exact zQ4 (ha x hx) (hb y hy)
theorem zbdX {x y:Term} (hx:VT x) (hy:VT y):zmX x.Fs y.Fs=(true,zbK x.Fs y.Fs):=by
 obtain ⟨gx,sx,lx,ex⟩:=hx;obtain ⟨gy,sy,ly,ey⟩:=hy;exact zber (d:=9) (by omega) _ _ (by omega) (λf hf=>⟨zvg (gx.2.2 f hf).1.1 (gx.2.2 f hf).1.2.2,by have:=(gx.2.2 f hf).2; omega⟩) λf hf=>by have:=(gy.2.2 f hf).2; omega
theorem zbgy (a b:yB) (i:Int) (x:Term) (hx:VT x) (hb:∀ t∈b,VT t) (hbl:b.length<=512) (terms:yB) (hl:terms.length<=1000000) (n:Nat) (hn:b.length<n):
  zG5 n b a a.length i b b.length 0 terms x=(true,(b,a,(a.length:Int),i,terms++b.map (zk7 x))):=by
 have hreach:zF=70368744177664:=rfl
 have:=zcY (W:=zyT) (z:=default) b.length (λj=>(b,(),(),a,(a.length:Int),i,b,(b.length:Int),(j:Int),())) (λj=>(terms++(b.take j).map (zk7 x),x,())) (λ_=>true) default (b,a,(a.length:Int),i,terms++b.map (zk7 x))
  (λj hj H K D=>by
   show (zoi b a a.length i b b.length j (terms++(b.take j).map (zk7 x)) x).ev H K D=_;unfold zoi;have hy:=hb _ (zn hj);have hr:decide (((terms++(b.take j).map (zk7 x)).length+1)*32<=zF)=true:=by simp only [qe,qg,List.length_map,List.length_take]; omega
   simp only [Wy.ev_i,Wy.ev_k,Wy.ev_h,Wy.ev_bn,Wy.ev_d,tT,hj,(z6l hx.1.1 hy.1.1).1,zbdX hx hy,List.length_singleton,hr];rw [zD (by omega),zjs hj,List.map_append, <- List.append_assoc]
   rfl)
  (λH K D=>by
   show (zoi b a a.length i b b.length b.length (terms++(b.take b.length).map (zk7 x)) x).ev H K D=_;unfold zoi;simp only [Wy.ev_i,Wy.ev_k,tT,Nat.lt_irrefl,List.take_length]) n hn
 rw [show zeo (λ_=>true) b.length 0=true from zdP.2 λ_ _ _=>rfl] at this
 simp only [List.take_zero,List.map_nil,List.append_nil] at this;exact this
theorem zbgx (a b:yB) (ha:∀ t∈a,VT t) (hb:∀ t∈b,VT t) (hal:a.length<=512) (hbl:b.length<=512) (n:Nat) (hn:a.length<n):
  zzd n b a a.length 0 []=(true,zfD a b):=by
 have:=zcY (W:=zyU) (z:=default) a.length (λi=>(b,(),a,(a.length:Int),(i:Int),())) (λi=>(zfD (a.take i) b,())) (λ_=>true) default (zfD a b)
  (λi hi H K D=>by
   show (zoc b a a.length i (zfD (a.take i) b)).ev H K D=_;unfold zoc;have hx:=ha _ (zn hi)
   have hlen:(zfD (a.take i) b).length<=1000000:=by
    rw [zVc,List.length_take];have:=Nat.mul_le_mul (show min i a.length<=512 by omega) hbl
    omega
   simp only [Wy.ev_i,Wy.ev_k,Wy.ev_h,Wy.ev_bn,Wy.ev_d,tT,hi];rw [zbgy a b i _ hx hb hbl _ hlen _ (by omega)]
   simp only [cond_true];rw [zD (by omega),zjs hi]
   have e:zfD (a.take i++[a.getD i default]) b=zfD (a.take i) b++b.map (zk7 (a.getD i default)):=by
    unfold zfD; rw [List.flatMap_append]; simp
   rw [e])
  (λH K D=>by
   show (zoc b a a.length a.length (zfD (a.take a.length) b)).ev H K D=_;unfold zoc;simp only [Wy.ev_i,Wy.ev_k,tT,Nat.lt_irrefl,List.take_length]) n hn
 rw [show zeo (λ_=>true) a.length 0=true from zdP.2 λ_ _ _=>rfl] at this
 exact this
theorem szTs_get' (a:yB) (i:Nat) (h:i<a.length):(a.getD i default).Fs.length<=zdY a:=zIE a i h
theorem zbci (a b:yB) (i:Int) (k:Nat) (hk:k<b.length) (out:yB) (c:Int) (x:Term) (hx:VT x) (hy:VT (b.getD k default)) (n:Nat) (hn:(b.getD k default).Fs.length<n):
  zGU n a b i k 0 out c x.Fs=(true,(a,b,i,(k:Int),out,c,zbK x.Fs (b.getD k default).Fs)):=by
 obtain ⟨gx,sx,lx,ex⟩:=hx;obtain ⟨gy0,sy,ly,ey⟩:=hy;have gy:∀ f∈(b.getD k default).Fs,GF f:=gy0.2.2;have sy:Srf (b.getD k default).Fs:=sy;clear gy0;generalize hF:(b.getD k default).Fs=F at *
 have key:∀ j,j<F.length->zGE (F.getD j default) (zbK x.Fs (F.take j))=zbK x.Fs (F.take (j+1)):=λj hj=>by
  have e1:=zP1 (F.take j) x.Fs (sy.sublist (List.take_sublist _ _)) (λz hz=>(ex z hz).1) λz hz=>(ey z (List.mem_of_mem_take hz)).1
  have e2:=zP1 (F.take (j+1)) x.Fs (sy.sublist (List.take_sublist _ _)) (λz hz=>(ex z hz).1) λz hz=>(ey z (List.mem_of_mem_take hz)).1
  rw [<- e1, <- e2,zjs hj,List.foldl_append]; rfl
 have:=zcY (W:=zGQ) (z:=default) F.length (λj=>(a,b,(),i,(k:Int),(),(j:Int),())) (λj=>(out,(c,zbK x.Fs (F.take j),()),())) (λ_=>true) default (a,b,i,(k:Int),out,c,zbK x.Fs F)
  (λj hj H K D=>by
   show (zn8 a b i k j out c (zbK x.Fs (F.take j))).ev H K D=_;unfold zn8;have hlen:=zJf x.Fs (F.take j);rw [List.length_take] at hlen;have hex:=λz (hz:z∈zbK x.Fs (F.take j))=>zIM (B:=64) (λz hz=>⟨(gx.2.2 z hz).2.1,(ex z hz).2⟩) (λz hz=>⟨(gy z (List.mem_of_mem_take hz)).2.1,(ey z (List.mem_of_mem_take hz)).2⟩) hz
   have hfine:∀ z∈zbK x.Fs (F.take j),zc0 (zo 9) z.At:=λz hz=>by
    obtain ⟨w,hw,e⟩:=zsU hz;rw [e];rcases hw with hw | hw
    ·exact zvg (gx.2.2 w hw).1.1 (gx.2.2 w hw).1.2.2
    ·exact zvg (gy w (List.mem_of_mem_take hw)).1.1 (gy w (List.mem_of_mem_take hw)).1.2.2
   have hm:=zn hj;have e1:decide ((k:Int)<Int.ofNat b.length)=true:=by simp [hk]
   have e2:decide ((j:Int)<Int.ofNat F.length)=true:=by simp [hj]
   have efx:(FO.mk (F.getD j default).At (F.getD j default).Exp:Fc)=F.getD j default:=rfl;simp only [At.eta,Wy.ev_i,Wy.ev_k,Wy.ev_h,Wy.ev_bn,Wy.ev_d,zea,Bool.and_self,cond_true,Int.toNat_natCast,hF,e1,e2,efx];rw [zbec (d:=9) _ _ (by omega) hfine (by omega) (λz hz=>by have:=hex z hz; omega) (by have:=(gy _ hm).2; omega),cond_true,zD (by omega),key j hj])
  (λH K D=>by
   show (zn8 a b i k F.length out c (zbK x.Fs (F.take F.length))).ev H K D=_;unfold zn8;have e1:decide ((k:Int)<Int.ofNat b.length)=true:=by simp [hk]
   have e2:decide ((F.length:Int)<Int.ofNat F.length)=false:=by simp
   simp only [Wy.ev_i,Wy.ev_k,zea,Bool.and_self,cond_true,cond_false,Int.toNat_natCast,hF,e1,e2,List.take_length]) n hn
 rw [show zeo (λ_=>true) F.length 0=true from zdP.2 λ_ _ _=>rfl] at this
 simp only [List.take_zero,zLq] at this;exact this
theorem zbez (a b:yB) (i:Nat) (hi:i<a.length) (hal:a.length<=512) (hbl:b.length<=512) (hx:VT (a.getD i default)) (hb:∀ t∈b,VT t) (out:yB) (ho:out.length<=i*512) (hs:Srs out) (hg:∀ t∈out,GT t) (n:Nat) (hn:b.length<n):
  zJE n a b i 0 out=(true,(a,b,(i:Int),zeC out (b.map (zk7 (a.getD i default))))):=by
 have:=zcP (W:=zJH) (z:=default) (l:=b) (λk (o:yB)=>(a,b,(),(i:Int),(k:Int),())) (λ_ o=>(o,())) (λy o=>.inl (ziD (zk7 (a.getD i default) y) o)) (λo=>(a,b,(i:Int),o)) (λk o=>(o.length<=i*512+k/\Srs o)/\∀ t∈o,GT t)
  (λk o hk hI=>.inl ⟨_,rfl,⟨⟨by have:=zWv (t:=zk7 (a.getD i default) (b.getD k default)) o; omega,zAO hI.1.2⟩,z6e (zQ4 hx (hb _ (zn hk))) hI.1.2 hI.2⟩,λH K D=>by
   show (zpQ a b i k o).ev H K D=_;unfold zpQ;have hy:=hb _ (zn hk);have hsz:=szTs_get' b k hk;simp only [Wy.ev_i,Wy.ev_k,Wy.ev_h,Wy.ev_bn,Wy.ev_d,tT,hk,hi,(z6l hx.1.1 hy.1.1).2];rw [zbci a b i k hk o _ _ hx hy _ (by omega)]
   simp only [cond_true];have e:(TO.mk (zxW (a.getD i default).Cf (b.getD k default).Cf) (zbK (a.getD i default).Fs (b.getD k default).Fs):Term)=zk7 (a.getD i default) (b.getD k default):=rfl;have hg:=zQ4 hx hy;rw [e,z8Y (d:=9) o _ (by omega) (λz hz=>(hI.2 z hz).fine) (by omega) (λz hz=>(hI.2 z hz).1) hg.1]
   simp only [cond_true];rw [zD (by omega)]⟩)
  (λo hI H K D=>by
   show (zpQ a b i b.length o).ev H K D=_;unfold zpQ;simp only [Wy.ev_i,Wy.ev_k,tT,Nat.lt_irrefl]) n 0 out (by omega) (by omega) (show (out.length<=i*512+0/\Srs out)/\∀ t∈out,GT t from ⟨⟨Nat.le_trans ho (Nat.le_add_right _ _),hs⟩,hg⟩)
 rw [List.drop_zero,zcO] at this
 have e:∀ (l:yB) (o:yB),l.foldl (λs t=>ziD (zk7 (a.getD i default) t) s) o=zeC o (l.map (zk7 (a.getD i default))):=λl=>by
  induction l with
  | nil=>intro o; rfl
  | cons y r ih=>intro o; rw [List.foldl_cons,ih]; rfl
 rw [e] at this;exact this
theorem z8n (o:yB) (b:yB) (x:Term):(zeC o (b.map (zk7 x))).length<=o.length+b.length:=by
 have:=zD4 (b.map (zk7 x)) o
 rwa [List.length_map] at this
theorem zbce (a b:yB) (ha:∀ t∈a,VT t) (hb:∀ t∈b,VT t) (hal:a.length<=512) (hbl:b.length<=512):zGA a b=(true,ztd a b):=by
 unfold zGA zLr
 have:=zcP (W:=zJR) (z:=default) (l:=a) (λi (o:yB)=>(a,b,(),(i:Int),())) (λ_ o=>(o,())) (λx o=>.inl (zeC o (b.map (zk7 x)))) (λo=>o) (λi o=>(o.length<=i*512/\Srs o)/\∀ t∈o,GT t)
  (λi o hi hI=>.inl ⟨_,rfl,⟨⟨by have:=z8n o b (a.getD i default); omega,zOB _ _ hI.1.2⟩,zJV _ _ hI.1.2 hI.2 λt ht=>by
    obtain ⟨y,hy,rfl⟩:=List.mem_map.1 ht;exact zQ4 (ha _ (zn hi)) (hb y hy)⟩,λH K D=>by
   show (zqc a b i o).ev H K D=_;unfold zqc;have e1:decide ((i:Int)<Int.ofNat a.length)=true:=by simp [hi]
   simp only [Wy.ev_i,Wy.ev_k,Wy.ev_h,Wy.ev_bn,Wy.ev_d,e1,cond_true];rw [zbez a b i hi hal hbl (ha _ (zn hi)) hb o hI.1.1 hI.1.2 hI.2 _ (by omega)]
   simp only [cond_true];rw [zD (by omega)]⟩)
  (λo hI H K D=>by
   show (zqc a b a.length o).ev H K D=_;unfold zqc;have e1:decide ((a.length:Int)<Int.ofNat a.length)=false:=by simp
   simp only [Wy.ev_i,Wy.ev_k,e1,cond_false]) ((a.length+b.length+Int.toNat (0:Int)+(0:Nat)+(1:Nat))+zdY a+zdY b+zdY []) 0 [] (by omega) (by omega) ⟨⟨by simp,.nil⟩,λt ht=>by cases ht⟩
 rw [List.drop_zero,zcO] at this
 have e:∀ (l:yB) (o:yB),l.foldl (λs x=>zeC s (b.map (zk7 x))) o=zeC o (zfD l b):=λl=>by
  induction l with
  | nil=>intro o; rfl
  | cons y r ih=>
   intro o;rw [List.foldl_cons,ih];show _=(zfD (y::r) b).foldl (λa t=>ziD t a) o
   unfold zfD;rw [List.flatMap_cons,List.foldl_append]; rfl
 rw [e] at this;have this:zIl ((a.length+b.length+Int.toNat (0:Int)+(0:Nat)+(1:Nat))+zdY a+zdY b+zdY []) a b 0 []=(true,ztd a b):=this;rw [Wy.fin_bn,this]; rfl
theorem z8M (a b:yB) (ha:∀ t∈a,GT t) (hb:∀ t∈b,GT t) (hs:Srs a) (hal:a.length<=512) (hbl:b.length<=512):zEI a b=(true,zeC a b):=by
 unfold zEI zXQ
 have:=zcP (W:=zJM) (z:=default) (l:=b) (λi (o:yB)=>(o,b,(i:Int),())) (λ_ o=>()) (λx o=>.inl (ziD x o)) (λo=>o) (λi o=>(o.length<=512+i/\Srs o)/\∀ t∈o,GT t)
  (λi o hi hI=>.inl ⟨_,rfl,⟨⟨by have:=zWv (t:=b.getD i default) o; omega,zAO hI.1.2⟩,z6e (hb _ (zn hi)) hI.1.2 hI.2⟩,λH K D=>by
   show (zx7 o b i).ev H K D=_;unfold zx7;simp only [Wy.ev_i,Wy.ev_k,Wy.ev_h,Wy.ev_bn,Wy.ev_d,tT,hi];rw [z8Y (d:=9) o _ (by omega) (λz hz=>(hI.2 z hz).fine) (by omega) (λz hz=>(hI.2 z hz).1) (hb _ (zn hi)).1,cond_true,zD (by omega)]⟩)
  (λo hI H K D=>by
   show (zx7 o b b.length).ev H K D=_;unfold zx7;simp only [Wy.ev_i,Wy.ev_k,tT,Nat.lt_irrefl]) (a.length+b.length+Int.toNat (0:Int)+(1:Nat)) 0 a (by omega) (by omega) ⟨⟨by omega,hs⟩,ha⟩
 rw [List.drop_zero,zcO] at this;have this:zVd (a.length+b.length+Int.toNat (0:Int)+(1:Nat)) a b 0=(true,zeC a b):=this;rw [Wy.fin_bn,this]; rfl
def okA (a:yB):Prop:=(zo 12 a/\zN a<=4611686018427387904)/\zgh a/\a.length<=zZ
def opR (ok:Bool) (r:yB×Int):yB×Int:=bif ok then r else ([],1)
def zkF (a b:yB):yB×Int:=opR (zX a&&zX b) (zlO (zeC a b))
def zIq (a b:yB):yB×Int:=opR (zX a&&zX b) (zlO (ztd a b))
def z9N (a b:yB):At:=⟨1,⟨0,0⟩,[a,b],0,[],0,⟨0,0,ByteArray.mk #[]⟩⟩
def z2H (a:yB):At:=⟨2,⟨0,0⟩,[a],0,[],0,⟨0,0,ByteArray.mk #[]⟩⟩
def z9K (a:yB):At:=⟨3,⟨0,0⟩,[a],0,[],0,⟨0,0,ByteArray.mk #[]⟩⟩
def zQp (a b:yB):yB×Int:=opR (zX a&&zX b) (if b=[] then (a,0) else if a=[]\/a=b then ([],0) else zlO (zcN (z9N a b)))
def zQM (a:yB):yB×Int:=opR (zX a) (if a=[]\/isU a=true then (a,0) else if isC a=true then ([⟨1,[]⟩],0) else zlO (zcN (z2H a)))
def zQg (a:yB):yB×Int:=opR (zX a) (if a=[] then ([⟨1,[]⟩],0) else if zwm a=true then ([],0) else zlO (zcN (z9K a)))
theorem okA.valid {a:yB} (h:okA a):zb8 a=(true,zX a):=z3G h.1.1 (by omega) h.1.2
theorem okA.rvalid {a:yB} (h:okA a):zgr a=(true,zX a):=z0R h.1.1 (by omega) h.1.2
theorem zbaN {a b:yB} (ha:okA a) (hb:okA b):zpC a b=(true,zkF a b)/\zx5 a b=(true,zkF a b):=by
 unfold zpC zIN zx5 zLV zkF;simp only [Wy.fin_bn,Wy.fin_i,Wy.fin_k,ha.valid,hb.valid,ha.rvalid,hb.rvalid,cond_true];cases va:zX a with
 | false=>first | exact ⟨trivial,trivial⟩ | exact ⟨rfl,rfl⟩ | exact ⟨trivial,rfl⟩ | exact ⟨rfl,trivial⟩
 | true=>
  cases vb:zX b with
  | false=>first | exact ⟨trivial,trivial⟩ | exact ⟨rfl,rfl⟩ | exact ⟨trivial,rfl⟩ | exact ⟨rfl,trivial⟩
  | true=>
   obtain ⟨sa,la,ta⟩:=zsF va ha.2.1;obtain ⟨sb,lb,tb⟩:=zsF vb hb.2.1;have ga:∀ t∈a,GT t:=λt ht=>(ta t ht).1
   have gb:∀ t∈b,GT t:=λt ht=>(tb t ht).1
   have hc:=zbb1 [a,b] (by simp) (λl hl=>by
    simp only [qd,List.not_mem_nil,or_false] at hl;rcases hl with rfl | rfl <;>omega)
   have e:[a,b].flatten=a++b:=by simp
   have hcol:=zZ1 (a++b) (by simp; omega) λt ht=>by
    rcases List.mem_append.1 ht with ht | ht
    ·exact ga t ht
    ·exact gb t ht
   rw [e] at hc;rw [zbdP a b sa] at hcol;have hsl:(zeC a b).length<=1000000:=by have:=zD4 b a; omega
   obtain ⟨f1,f2⟩:=z1l hsl (zJV b a sa ga gb);simp only [Bool.not_true,cond_false,Bool.and_self,hc,hcol,zyd f1 (by omega:10<=100) f2,z8M a b ga gb sa la lb,zIW f1 (by omega:10<=100) f2,cond_true]
   first | exact ⟨trivial,trivial⟩ | exact ⟨rfl,rfl⟩ | exact ⟨trivial,rfl⟩ | exact ⟨rfl,trivial⟩
theorem zbfL {a b:yB} (ha:okA a) (hb:okA b):ztV a b=(true,zIq a b)/\z3Z a b=(true,zIq a b):=by
 unfold ztV zIQ z3Z zXI zIq;simp only [Wy.fin_bn,Wy.fin_i,Wy.fin_k,ha.valid,hb.valid,ha.rvalid,hb.rvalid,cond_true];cases va:zX a with
 | false=>first | exact ⟨trivial,trivial⟩ | exact ⟨rfl,rfl⟩ | exact ⟨trivial,rfl⟩ | exact ⟨rfl,trivial⟩
 | true=>
  cases vb:zX b with
  | false=>first | exact ⟨trivial,trivial⟩ | exact ⟨rfl,rfl⟩ | exact ⟨trivial,rfl⟩ | exact ⟨rfl,trivial⟩
  | true=>
   obtain ⟨sa,la,ta⟩:=zsF va ha.2.1;obtain ⟨sb,lb,tb⟩:=zsF vb hb.2.1;have hm:=zbgx a b ta tb la lb (b.length+a.length+(Int.ofNat a.length).toNat +Int.toNat (0:Int)+(0:Nat)+(1:Nat)) (by omega)
   have hm:zzd (b.length+a.length+(Int.ofNat a.length).toNat +Int.toNat (0:Int)+(0:Nat)+(1:Nat)) b a (Int.ofNat a.length) 0 []=_:=hm;have hpl:(zfD a b).length<=1000000:=by rw [zVc]; have:=Nat.mul_le_mul la lb; omega
   have hcol:=zZ1 (zfD a b) hpl (zYI ta tb);have hsl:(ztd a b).length<=1000000:=by have:=zD4 (zfD a b) []; simp at this; exact Nat.le_trans this hpl
   obtain ⟨f1,f2⟩:=z1l hsl (zJV (zfD a b) [] .nil (λt ht=>by cases ht) (zYI ta tb))
   have f1:zo 10 (ztd a b):=f1;have f2:zN (ztd a b)<=4611686018427387904:=f2;have hcol:zhv (zfD a b)=(true,ztd a b):=hcol;simp only [Bool.not_true,cond_false,Bool.and_self,hm,hcol,zyd f1 (by omega:10<=100) f2,zbce a b ta tb la lb,zIW f1 (by omega:10<=100) f2,cond_true]
   first | exact ⟨trivial,trivial⟩ | exact ⟨rfl,rfl⟩ | exact ⟨trivial,rfl⟩ | exact ⟨rfl,trivial⟩
theorem zQZ {l:yA} {k:Int} (hl:l.length<=2) (h:∀ a∈l,zX a=true):zo 10 (zcN ⟨k,⟨0,0⟩,l,0,[],0,⟨0,0,ByteArray.mk #[]⟩⟩)/\zN (zcN ⟨k,⟨0,0⟩,l,0,[],0,⟨0,0,ByteArray.mk #[]⟩⟩)<=4611686018427387904:=by
 constructor
 ·exact zTG ⟨⟨by simp only; omega,by simp,by show (ByteArray.mk #[]).size<=_; decide⟩,λa ha=>(zeJ (h a ha)).1,λw hw=>(by cases hw)⟩
 ·rw [zZG,zgS]
  have hb:∀ l:yA,(∀ a∈l,zX a=true)->zeM l<=l.length*4096:=λl=>by
   induction l with
   | nil=>intro _; rw [zgq]; simp
   | cons a r ih=>
    intro h;have h1:=(zeJ (h a (by simp))).2.1
    have h2:=ih λb hb=>h b (by simp [hb])
    rw [zeA,qf,Nat.add_mul]; omega
  have:=hb l h;show 2+(zeM l+zc3 [])<=_;rw [zfe];have:=Nat.mul_le_mul hl (Nat.le_refl 4096);omega
theorem z1S (a:yB):(Int.ofNat a.length==(0:Int))=decide (a=[]):=by
 rw [show (Int.ofNat a.length==(0:Int))=(a.length==0) from zrA _ 0,zYW]
 congr 1;rw [List.length_eq_zero_iff]
theorem zbcg {a b:yB} (ha:okA a) (hb:okA b):zpW a b=(true,zQp a b)/\zX3 a b=(true,zQp a b):=by
 unfold zpW zFH zX3 zRm zQp;simp only [Wy.fin_bn,Wy.fin_i,Wy.fin_k,ha.valid,hb.valid,ha.rvalid,hb.rvalid,cond_true];cases va:zX a with
 | false=>first | exact ⟨trivial,trivial⟩ | exact ⟨rfl,rfl⟩ | exact ⟨trivial,rfl⟩ | exact ⟨rfl,trivial⟩
 | true=>
  cases vb:zX b with
  | false=>first | exact ⟨trivial,trivial⟩ | exact ⟨rfl,rfl⟩ | exact ⟨trivial,rfl⟩ | exact ⟨rfl,trivial⟩
  | true=>
   obtain ⟨f1,f2⟩:=zQZ (l:=[a,b]) (k:=1) (by simp) (λx hx=>by
    simp only [qd,List.not_mem_nil,or_false] at hx;rcases hx with rfl | rfl
    ·exact va
    ·exact vb)
   simp only [Bool.not_true,cond_false,Bool.and_self,z1S,zFJ ha.1.1 (by omega:12<=100),zDa ha.1.1 (by omega:12<=100),zGK ha.1.1 (by omega:12<=100),zFR,zNG,zyd f1 (by omega:10<=100) f2,zIW f1 (by omega:10<=100) f2,cond_true,opR]
   by_cases hb0:b=[]
   ·simp only [hb0,decide_true,cond_true,if_true]; exact ⟨trivial,trivial⟩
   ·by_cases ha0:a=[]
    ·simp only [hb0,ha0,decide_true,decide_false,cond_true,cond_false,if_true,if_false,true_or]; exact ⟨trivial,trivial⟩
    ·by_cases hab:a=b
     ·simp only [hb0,ha0,hab,decide_true,decide_false,cond_true,cond_false,if_true,if_false,or_true]; exact ⟨trivial,trivial⟩
     ·simp only [hb0,ha0,hab,decide_false,cond_false,if_false,or_self]; first | exact ⟨trivial,trivial⟩ | exact ⟨rfl,rfl⟩ | exact ⟨trivial,rfl⟩ | exact ⟨rfl,trivial⟩
theorem zbco {a:yB} (ha:okA a):zpV a=(true,zQM a)/\zXG a=(true,zQM a):=by
 unfold zpV zEx zXG zRN zQM;simp only [Wy.fin_bn,Wy.fin_i,Wy.fin_k,ha.valid,ha.rvalid,cond_true];cases va:zX a with
 | false=>first | exact ⟨trivial,trivial⟩ | exact ⟨rfl,rfl⟩ | exact ⟨trivial,rfl⟩ | exact ⟨rfl,trivial⟩
 | true=>
  obtain ⟨f1,f2⟩:=zQZ (l:=[a]) (k:=2) (by simp) (λx hx=>by rw [qh] at hx; subst hx; exact va)
  have hla:a.length<=1000000000:=by have:=(zeJ va).2.2; omega
  have hbu:isB a=isU a:=zUN va;simp only [Bool.not_true,cond_false,z1S,zFJ ha.1.1 (by omega:12<=100),z3J,zRr,zLb,zza a hla,zFR,zNG,zyd f1 (by omega:10<=100) f2,zIW f1 (by omega:10<=100) f2,cond_true,opR,hbu]
  rw [show zlO (zcN ⟨2,⟨0,0⟩,[a],0,[],0,⟨0,0,ByteArray.mk #[]⟩⟩)=zlO (zcN (z2H a)) from rfl]
  clear f1 f2;generalize zlO (zcN (z2H a))=R;by_cases h0:a=[]
  ·simp only [h0,decide_true,cond_true,if_true,true_or]; exact ⟨trivial,trivial⟩
  ·cases hu:isU a with
   | true=>simp only [h0,decide_false,cond_false,cond_true,if_true,or_true]; exact ⟨trivial,trivial⟩
   | false=>
    simp only [h0,decide_false,cond_false,if_false,or_self,Bool.false_eq_true]
    match a,h0 with
    | [t],_=>
     have e1:zwm [t]=(t.Fs.length==0):=by simp [zwm]
     have e2:isC [t]=(t.Fs.length==0):=rfl;rw [e1,e2];cases (t.Fs.length==0) with
     | true=>simp only [cond_true,if_true]; first | exact ⟨trivial,trivial⟩ | exact ⟨rfl,rfl⟩ | exact ⟨trivial,rfl⟩ | exact ⟨rfl,trivial⟩
     | false=>simp only [cond_false,cond_true,Bool.false_eq_true,if_false]; first | exact ⟨trivial,trivial⟩ | exact ⟨rfl,rfl⟩ | exact ⟨trivial,rfl⟩ | exact ⟨rfl,trivial⟩
    | t::s::r,_=>
     have e2:isC (t::s::r)=false:=rfl;simp only [zMM,e2,cond_false,cond_true,Bool.false_eq_true,if_false]
     first | exact ⟨trivial,trivial⟩ | exact ⟨rfl,rfl⟩ | exact ⟨trivial,rfl⟩ | exact ⟨rfl,trivial⟩
theorem zbaU {a:yB} (ha:okA a):znV a=(true,zQg a)/\zU1 a=(true,zQg a):=by
 unfold znV zDc zU1 zNP zQg;simp only [Wy.fin_bn,Wy.fin_i,Wy.fin_k,ha.valid,ha.rvalid,cond_true];cases va:zX a with
 | false=>first | exact ⟨trivial,trivial⟩ | exact ⟨rfl,rfl⟩ | exact ⟨trivial,rfl⟩ | exact ⟨rfl,trivial⟩
 | true=>
  obtain ⟨f1,f2⟩:=zQZ (l:=[a]) (k:=3) (by simp) (λx hx=>by rw [qh] at hx; subst hx; exact va)
  have hla:a.length<=1000000000:=by have:=(zeJ va).2.2; omega
  simp only [Bool.not_true,cond_false,z1S,zPe a hla,zza a hla,zFR,zNG,zyd f1 (by omega:10<=100) f2,zIW f1 (by omega:10<=100) f2,cond_true,opR]
  by_cases h0:a=[]
  ·simp only [h0,decide_true,cond_true,if_true]; first | exact ⟨trivial,trivial⟩ | exact ⟨rfl,rfl⟩ | exact ⟨trivial,rfl⟩ | exact ⟨rfl,trivial⟩
  ·cases hu:zwm a with
   | true=>simp only [h0,decide_false,cond_false,cond_true,if_true,if_false]; exact ⟨trivial,trivial⟩
   | false=>simp only [h0,decide_false,cond_false,if_false,Bool.false_eq_true]; first | exact ⟨trivial,trivial⟩ | exact ⟨rfl,rfl⟩ | exact ⟨trivial,rfl⟩ | exact ⟨rfl,trivial⟩
theorem zUB {n:Int} (h:rng n):wf3 n:=by
 show (Lit.int .i64 n).wf=true;have:IntKind.i64.min<=n/\n<=IntKind.i64.max:=⟨h.1,h.2⟩
 simpa [Lit.wf] using this
theorem zTZ {t:Term} (hc:rng t.Cf) (hf:∀ f∈t.Fs,zhD f.At/\rng f.Exp) (hl:t.Fs.length<=1000000):zFM t:=by
 obtain ⟨c,fs⟩:=t;unfold zFM;refine ⟨zUB hc,zUC fs λf h=> ?_,by have:zZ=140737488351232:=rfl; simp only at hl; omega⟩
 obtain ⟨x,e⟩:=f;unfold zAy;exact ⟨(hf _ h).1,zUB (hf _ h).2⟩
def okR (r:yB×Int):Prop:=okA r.1/\(r.2=0\/r.1=[])
theorem zlD:okA []:=⟨⟨zbcc 11,by rw [zuD]; omega⟩,by unfold zgh; trivial,by simp⟩
theorem zH9 {a:yB} (h:okA a):okR (zlO a):=by
 unfold zlO;cases ze0 a with
 | true=>exact ⟨h,.inl rfl⟩
 | false=>exact ⟨zlD,.inr rfl⟩
theorem zWc {ok:Bool} {r:yB×Int} (h:ok=true->okR r):okR (opR ok r):=by
 unfold opR;cases ok with
 | true=>exact h rfl
 | false=>exact ⟨zlD,.inr rfl⟩
theorem z1Z {l:yB} (hl:l.length<=1000000) (h:∀ t∈l,GT t):okA l:=by
 obtain ⟨h1,h2⟩:=z1l hl h;refine ⟨⟨h1.mono (by omega),h2⟩,zJg l λt ht=> ?_,by have:zZ=140737488351232:=rfl; omega⟩
 have hg:=h t ht;exact zTZ ⟨by have:=hg.1.1; omega,by have:=hg.1.2; omega⟩ (λf hf=>⟨(hg.2.2 f hf).1.2.1,(hg.2.2 f hf).gF.2.2⟩) (by have:=hg.2.1; omega)
theorem z2y {a b:yB} (ha:okA a) (hb:okA b):okR (zkF a b):=zWc λhv=>by
 rw [qc] at hv;obtain ⟨sa,la,ta⟩:=zsF hv.1 ha.2.1;obtain ⟨sb,lb,tb⟩:=zsF hv.2 hb.2.1;exact zH9 (z1Z (by have:=zD4 b a; omega) (zJV b a sa (λt ht=>(ta t ht).1) λt ht=>(tb t ht).1))
theorem z87 {a b:yB} (ha:okA a) (hb:okA b):okR (zIq a b):=zWc λhv=>by
 rw [qc] at hv;obtain ⟨sa,la,ta⟩:=zsF hv.1 ha.2.1;obtain ⟨sb,lb,tb⟩:=zsF hv.2 hb.2.1;have hpl:(zfD a b).length<=1000000:=by rw [zVc]; have:=Nat.mul_le_mul la lb; omega
 exact zH9 (z1Z (by have:=zD4 (zfD a b) []; simp at this; exact Nat.le_trans this hpl) (zJV (zfD a b) [] .nil (λt ht=>by cases ht) (zYI ta tb)))
theorem z7e {x:At} (hf:zc0 (zo 9) x) (hs:zN (zcN x)<=4611686018427387904) (hw:zhD x):okA (zcN x):=by
 refine ⟨⟨(zTG hf).mono (by omega),hs⟩,zJg _ λt ht=> ?_,by simp [zcN,zZ]⟩
 simp only [zcN,qh] at ht;subst ht;refine zTZ ⟨by simp,by simp⟩ (λf hf=> ?_) (by simp)
 simp only [qh] at hf;subst hf;exact ⟨hw,⟨by simp,by simp⟩⟩
theorem zT5 {n:Int} (h: -1000<=n/\n<=1000):rng n:=⟨by omega,by omega⟩
theorem zpE:wf3 0:=zUB (zT5 (by omega))
theorem zUO {l:yA} {k:Int} (hk:0<=k/\k<=4) (hl:l.length<=2) (h:∀ a∈l,zX a=true) (hw:∀ a∈l,okA a):okA (zcN ⟨k,⟨0,0⟩,l,0,[],0,⟨0,0,ByteArray.mk #[]⟩⟩):=by
 refine z7e ⟨⟨by simp only; omega,by simp,by show (ByteArray.mk #[]).size<=_; decide⟩,λa ha=>(zeJ (h a ha)).1,λw hw=>(by cases hw)⟩ (zQZ hl h).2 ?_
 unfold zhD;have hr:zZ=140737488351232:=rfl;refine ⟨zUB (zT5 (by omega)),⟨zpE,zpE⟩,⟨z3u l λa ha=>⟨(hw a ha).2.1,(hw a ha).2.2⟩,by omega⟩,zpE,⟨by unfold zru; trivial,by simp⟩,zpE,⟨zpE,zpE, ?_⟩⟩
 show (ByteArray.mk #[]).size<=zZ;rw [hr]; decide
theorem z9r {a b:yB} (ha:okA a) (hb:okA b):okR (zQp a b):=zWc λhv=>by
 rw [qc] at hv;split
 ·exact ⟨ha,.inl rfl⟩
 ·split
  ·exact ⟨zlD,.inl rfl⟩
  ·refine zH9 (zUO (by omega) (by simp) (λx hx=> ?_) λx hx=> ?_)
   ·simp only [qd,List.not_mem_nil,or_false] at hx;rcases hx with rfl | rfl
    ·exact hv.1
    ·exact hv.2
   ·simp only [qd,List.not_mem_nil,or_false] at hx;rcases hx with rfl | rfl
    ·exact ha
    ·exact hb
theorem zWo (c:Int) (hc:1<=c/\c<=1152921504606846976):okA [⟨c,[]⟩]:=z1Z (by simp) λt ht=>by
 rw [qh] at ht; subst ht;exact ⟨hc,by simp,λf hf=>by cases hf⟩
theorem z9D {a:yB} (ha:okA a):okR (zQM a):=zWc λhv=>by
 split
 ·exact ⟨ha,.inl rfl⟩
 ·split
  ·exact ⟨zWo 1 (by omega),.inl rfl⟩
  ·exact zH9 (zUO (by omega) (by simp) (λx hx=>by rw [qh] at hx; subst hx; exact hv) λx hx=>by rw [qh] at hx; subst hx; exact ha)
theorem z9m {a:yB} (ha:okA a):okR (zQg a):=zWc λhv=>by
 split
 ·exact ⟨zWo 1 (by omega),.inl rfl⟩
 ·split
  ·exact ⟨zlD,.inl rfl⟩
  ·exact zH9 (zUO (by omega) (by simp) (λx hx=>by rw [qh] at hx; subst hx; exact hv) λx hx=>by rw [qh] at hx; subst hx; exact ha)
def zAB (n:Int):yB:=if n<1 then [] else [⟨if 1152921504606846976<n then 1152921504606846976 else n,[]⟩]
def zjm (id:RowID):yB:=bif zw1 id then zcN ⟨0,id,[],0,[],0,⟨0,0,ByteArray.mk #[]⟩⟩ else []
theorem zbc9 (n:Int):zpN n=(true,zAB n)/\zYp n=(true,zAB n):=by
 unfold zpN zFp zYp zRt zAB;by_cases h:n<1
 ·simp only [Wy.fin_i,Wy.fin_k,h,decide_true,cond_true,if_true]; exact ⟨trivial,trivial⟩
 ·simp only [Wy.fin_i,Wy.fin_k,h,decide_false,cond_false,if_false]; exact ⟨trivial,trivial⟩
theorem z6a (id:RowID):zpD id=(true,zjm id)/\zAK id=(true,zjm id):=by
 unfold zpD zJi zAK zXL zjm zw1;simp only [Wy.fin_i,Wy.fin_bn,Wy.fin_k,zBA,zFR,zNG,cond_true];unfold zw1
 have e1:decide (id.Table<1)= !decide (id.Table≥1):=by
  by_cases h:id.Table<1
  ·have:¬ id.Table≥1:=by omega
   simp only [h,this,decide_true,decide_false,Bool.not_false]
  ·have:id.Table≥1:=by omega
   simp only [h,this,decide_true,decide_false,Bool.not_true]
 have e2:decide (id.Seq<1)= !decide (id.Seq≥1):=by
  by_cases h:id.Seq<1
  ·have:¬ id.Seq≥1:=by omega
   simp only [h,this,decide_true,decide_false,Bool.not_false]
  ·have:id.Seq≥1:=by omega
   simp only [h,this,decide_true,decide_false,Bool.not_true]
 rw [e1,e2];cases decide (id.Table≥1) <;>cases decide (id.Seq≥1) <;>exact ⟨rfl,rfl⟩
theorem zbaQ (n:Int):okA (zAB n):=by
 unfold zAB;split
 ·exact zlD
 ·refine zWo _ ?_;split <;>omega
theorem zbbn {id:RowID} (h:zYY id):okA (zjm id):=by
 unfold zjm;cases hr:zw1 id with
 | false=>exact zlD
 | true=>
  refine z7e ⟨⟨by simp,by simp,by show (ByteArray.mk #[]).size<=_; decide⟩,λa ha=>(by cases ha),λw hw=>(by cases hw)⟩ (by rw [zZG,zgS,zgq,zfe]; omega) ?_
  unfold zhD;refine ⟨zpE,h,⟨by unfold zvE; trivial,by simp⟩,zpE,⟨by unfold zru; trivial,by simp⟩,zpE,⟨zpE,zpE, ?_⟩⟩
  show (ByteArray.mk #[]).size<=zZ;have hr:zZ=140737488351232:=rfl;rw [hr]; decide
theorem zbeN {a:yB} {n:Nat} (hn:n<=1000) (h:zo 12 a/\zd8 a<=n) (hw:z5S a):okA a:=⟨⟨h.1,by have:=zH2 a; omega⟩,hw.1,hw.2⟩
def MF (l:yC):Prop:=Srf l/\∀ f∈l,eOK f/\1<=f.Exp
theorem MF.tail {f:Fc} {l:yC} (h:MF (f::l)):MF l:=⟨(qi.1 h.1).2,λg hg=>h.2 g (by simp [hg])⟩
theorem MF.nil:MF []:=⟨List.Pairwise.nil,λf hf=>by cases hf⟩
theorem cF_self' {x y:Fc} (h:x.At=y.At):cF x y=0:=by unfold cF; rw [h]; exact zBc _
theorem MF.ne {f:Fc} {l:yC} (h:MF (f::l)):∀ g∈l,g.At≠f.At:=λg hg e=>by
 have:=(qi.1 h.1).1 g hg;rw [cF_self' e.symm] at this; omega
theorem zbcx {a b:yC}:Srf a->Srf b->Srf (zbK a b):=by
 induction a,b using zbK.induct with
 | case1 b=>intro _ hb; rw [zbK]; exact hb
 | case2 x a=>intro ha _; rw [zbK]; exact ha
 | case3 x a y b h ih=>
  intro ha hb;have ca:=qi.1 ha;rw [zbK,if_pos h];refine qi.2 ⟨λz hz=> ?_,ih ca.2 hb⟩
  obtain ⟨w,hw,e⟩:=zsU hz;have:cF x z=cF x w:=by unfold cF; rw [e]
  rw [this];rcases hw with hw | hw
  ·exact ca.1 w hw
  ·rcases qd.1 hw with rfl | hw
   ·exact h
   ·exact zEd h ((qi.1 hb).1 w hw)
 | case4 x a y b h h2 ih=>
  intro ha hb;have cb:=qi.1 hb;rw [zbK,if_neg h,if_pos h2];have h3:cF y x<0:=by rw [zbdH x y]; omega
  refine qi.2 ⟨λz hz=> ?_,ih ha cb.2⟩
  obtain ⟨w,hw,e⟩:=zsU hz;have:cF y z=cF y w:=by unfold cF; rw [e]
  rw [this];rcases hw with hw | hw
  ·rcases qd.1 hw with rfl | hw
   ·exact h3
   ·exact zEd h3 ((qi.1 ha).1 w hw)
  ·exact cb.1 w hw
 | case5 x a y b h h2 ih=>
  intro ha hb;have ca:=qi.1 ha;have cb:=qi.1 hb;have h0:x.At=y.At:=z9c (by omega)
  rw [zbK,if_neg h,if_neg h2];have hA:(if x.At.Kind=3\/x.At.Kind=4 then x else ⟨x.At,x.Exp+y.Exp⟩:Fc).At=x.At:=by split <;>rfl
  refine qi.2 ⟨λz hz=> ?_,ih ca.2 cb.2⟩
  obtain ⟨w,hw,e⟩:=zsU hz;have:cF (if x.At.Kind=3\/x.At.Kind=4 then x else ⟨x.At,x.Exp+y.Exp⟩:Fc) z=cF x w:=by unfold cF; rw [e,hA]
  rw [this];rcases hw with hw | hw
  ·exact ca.1 w hw
  ·have:cF x w=cF y w:=by unfold cF; rw [h0]
   rw [this]; exact cb.1 w hw
theorem zbcL {a b:yC}:(∀ f∈a,eOK f/\1<=f.Exp)->(∀ f∈b,eOK f/\1<=f.Exp)->∀ f∈zbK a b,eOK f/\1<=f.Exp:=by
 induction a,b using zbK.induct with
 | case1 b=>intro _ hb; rw [zbK]; exact hb
 | case2 x a=>intro ha _; rw [zbK]; exact ha
 | case3 x a y b h ih=>
  intro ha hb f hf;rw [zbK,if_pos h] at hf;rcases qd.1 hf with rfl | hf
  ·exact ha _ (by simp)
  ·exact ih (λg hg=>ha g (by simp [hg])) hb f hf
 | case4 x a y b h h2 ih=>
  intro ha hb f hf;rw [zbK,if_neg h,if_pos h2] at hf;rcases qd.1 hf with rfl | hf
  ·exact hb _ (by simp)
  ·exact ih ha (λg hg=>hb g (by simp [hg])) f hf
 | case5 x a y b h h2 ih=>
  intro ha hb f hf;rw [zbK,if_neg h,if_neg h2] at hf;rcases qd.1 hf with rfl | hf
  ·have h1:=ha x (by simp)
   have h2:=hb y (by simp)
   split
   ·exact h1
   ·rename_i hk;exact ⟨⟨h1.1.1,λh=>absurd h hk⟩,by show 1<=x.Exp+y.Exp; omega⟩
  ·exact ih (λg hg=>ha g (by simp [hg])) (λg hg=>hb g (by simp [hg])) f hf
theorem zbdu {a b:yC} (ha:MF a) (hb:MF b):MF (zbK a b):=⟨zbcx ha.1 hb.1,zbcL ha.2 hb.2⟩
def EqS (n m:Nat):Prop:=n=m\/(1152921504606846976<=n/\1152921504606846976<=m)
theorem EqS.refl (n:Nat):EqS n n:=.inl rfl
theorem EqS.symm {n m:Nat} (h:EqS n m):EqS m n:=by unfold EqS at *; omega
theorem EqS.trans {n m k:Nat} (h:EqS n m) (h':EqS m k):EqS n k:=by unfold EqS at *; omega
theorem EqS.add {n m n' m':Nat} (h:EqS n n') (h':EqS m m'):EqS (n+m) (n'+m'):=by unfold EqS at *; omega
theorem EqS.mul1 {n n':Nat} (k:Nat) (h:EqS n n'):EqS (n*k) (n'*k):=by
 rcases h with rfl | ⟨h1,h2⟩
 ·exact .refl _
 ·rcases Nat.eq_zero_or_pos k with rfl | hk
  ·exact .inl (by simp)
  ·exact .inr ⟨Nat.le_trans h1 (Nat.le_mul_of_pos_right n hk),Nat.le_trans h2 (Nat.le_mul_of_pos_right n' hk)⟩
theorem EqS.mul {n m n' m':Nat} (h:EqS n n') (h':EqS m m'):EqS (n*m) (n'*m'):=by
 refine (h.mul1 m).trans ?_;rw [Nat.mul_comm n' m,Nat.mul_comm n' m'];exact h'.mul1 n'
def PA (a:yB):Prop:=Srs a/\∀ t∈a,cOK t/\MF t.Fs
theorem PA.c {a:yB} (h:PA a):∀ t∈a,cOK t:=λt ht=>(h.2 t ht).1
theorem zbfb {a b:yB} (ha:PA a) (hb:PA b):PA (zeC a b):=⟨zOB _ _ ha.1,λt ht=>⟨z9H b ha.c hb.c t ht,by
 obtain ⟨x,hx,e⟩:=zIa b a ha.1 ht;rw [e];rcases hx with hx | hx
 ·exact (ha.2 x hx).2
 ·exact (hb.2 x hx).2⟩⟩
theorem PA.nil:PA []:=⟨List.Pairwise.nil,λt ht=>by cases ht⟩
theorem zbaD {c:Int} (h:c<=1152921504606846976):zxW c 1=c:=by
 unfold zxW;rw [if_neg (by rw [Int.tdiv_one]; omega)]; omega
theorem zJo {τ:Type} [Inhabited τ] {R:τ->τ->Prop}:∀ {l:List τ},l.Pairwise R->∀ k,0<k->k<l.length->R (l.getD (k - 1) default) (l.getD k default)
 | [],_,k,_,h=>by simp at h
 | x::r,h,0,h0,_=>by omega
 | x::r,h,1,_,h1=>(qi.1 h).1 _ (zn (by simpa using h1))
 | x::r,h,k+2,_,h1=>zJo (qi.1 h).2 (k+1) (by omega) (by simp only [qf] at h1; omega)
def OKF (vat:At->Bool) (fs:yC):Prop:=Srf fs/\∀ f∈fs,(1<=f.Exp/\(f.At.Kind=3\/f.At.Kind=4->f.Exp=1))/\vat f.At=true
theorem z8Q {vat:At->Bool} {fs:yC}:okF vat fs=true↔OKF vat fs:=by
 constructor
 ·intro h;refine ⟨zty (R:=λx y=>cF x y<0) (λx y z h1 h2=>zEd h1 h2) _ λk hk hl=> ?_,λf hf=>zoL h hf⟩
  have:=zdP.1 h k (by omega) (by omega)
  simp only [zMk,qc,Bool.or_eq_true,qe] at this;rcases this.1.2 with e | e
  ·omega
  ·exact e
 ·intro h;refine zdP.2 λk _ hk=> ?_
  have hm:=h.2 _ (zn (l:=fs) (i:=k) (by omega))
  simp only [zMk,qc,Bool.or_eq_true,qe,Bool.not_eq_true',Bool.and_eq_false_iff];refine ⟨⟨⟨hm.1.1, ?_⟩, ?_⟩,hm.2⟩
  ·by_cases hk:(fs.getD k default).At.Kind=3\/(fs.getD k default).At.Kind=4
   ·right; rw [hm.1.2 hk]; rfl
   ·left
    rw [Bool.or_eq_false_iff];constructor
    ·simpa using λe=>hk (.inl e)
    ·simpa using λe=>hk (.inr e)
  ·by_cases h0:k=0
   ·exact .inl h0
   ·exact .inr (zJo h.1 k (by omega) (by omega))
theorem zQU {vat:At->Bool} {a:yB}:zwH vat a=true↔ze0 a=true/\Srs a/\∀ t∈a,cOK t/\OKF vat t.Fs:=by
 constructor
 ·intro h;have hall:=h;simp only [zwH,qc] at hall;refine ⟨hall.1,zty (R:=λx y=>cT x y<0) (λx y z h1 h2=>zJj h1 h2) a λk hk hl=> ?_,λt ht=>⟨(zul h ht).1,z8Q.1 (zul h ht).2⟩⟩
  have:=zdP.1 hall.2 k (by omega) (by omega)
  simp only [zBz,qc,Bool.or_eq_true,qe] at this;rcases this.1.2 with e | e
  ·omega
  ·exact e
 ·rintro ⟨h1,h2,h3⟩
  simp only [zwH,qc];refine ⟨h1,zdP.2 λk _ hk=> ?_⟩
  have hm:=h3 _ (zn (l:=a) (i:=k) (by omega))
  simp only [zBz,qc,Bool.or_eq_true,qe];refine ⟨⟨⟨hm.1.1,hm.1.2⟩, ?_⟩,z8Q.2 hm.2⟩;by_cases h0:k=0
  ·exact .inl h0
  ·exact .inr (zJo h2 k (by omega) (by omega))
def QA (a:yB):Prop:=Srs a/\∀ t∈a,cOK t/\OKF zow t.Fs
theorem zux {a:yB}:zX a=true↔ze0 a=true/\QA a:=by rw [z0k]; exact zQU
theorem OKF.mf {fs:yC} (h:OKF zow fs):MF fs:=⟨h.1,λf hf=>⟨⟨zBK (h.2 f hf).2,(h.2 f hf).1.2⟩,(h.2 f hf).1.1⟩⟩
theorem QA.pa {a:yB} (h:QA a):PA a:=⟨h.1,λt ht=>⟨(h.2 t ht).1,(h.2 t ht).2.mf⟩⟩
theorem zZr {a:yB} (h:zX a=true):QA a:=(zux.1 h).2
theorem zbcS {a:yB} (h:zX a=true):PA a:=(zZr h).pa
theorem MF.okf {fs:yC} (h:MF fs) (hv:∀ f∈fs,zow f.At=true):OKF zow fs:=⟨h.1,λf hf=>⟨⟨(h.2 f hf).2,(h.2 f hf).1.2⟩,hv f hf⟩⟩
theorem OKF.join {a b:yC} (ha:OKF zow a) (hb:OKF zow b):OKF zow (zbK a b):=(zbdu ha.mf hb.mf).okf λf hf=>by
 obtain ⟨y,hy,e⟩:=zsU hf;rw [e];rcases hy with hy | hy
 ·exact (ha.2 y hy).2
 ·exact (hb.2 y hy).2
theorem zbe0 {a b:yB} (ha:QA a) (hb:QA b):QA (zeC a b):=⟨zOB _ _ ha.1,λt ht=>⟨z9H b ha.pa.c hb.pa.c t ht,by
 obtain ⟨x,hx,e⟩:=zIa b a ha.1 ht;rw [e];rcases hx with hx | hx
 ·exact (ha.2 x hx).2
 ·exact (hb.2 x hx).2⟩⟩
theorem QA.nil:QA []:=⟨List.Pairwise.nil,λt ht=>by cases ht⟩
theorem zbd6 {x:At} (h:zow x=true):QA (zcN x):=⟨by simp [zcN],λt ht=>by
 simp only [zcN,qh] at ht; subst ht;refine ⟨⟨by simp,by simp⟩,by simp,λf hf=> ?_⟩
 rw [qh] at hf; subst hf;exact ⟨⟨by simp,λ_=>rfl⟩,h⟩⟩
theorem zbfw {a:yB} (h:(zlO a).2=0):ze0 a=true/\zlO a=(a,0):=by
 unfold zlO at *;cases hw:ze0 a with
 | true=>exact ⟨rfl,rfl⟩
 | false=>rw [hw] at h; simp at h
theorem zbgG {ok:Bool} {r:yB×Int} (h:(opR ok r).2=0):ok=true/\opR ok r=r:=by
 cases ok with
 | true=>exact ⟨rfl,rfl⟩
 | false=>simp [opR] at h
theorem zbfu {a b:yB} (h:(zkF a b).2=0):(zX a=true/\zX b=true/\zX (zeC a b)=true)/\zkF a b=(zeC a b,0):=by
 obtain ⟨h1,h2⟩:=zbgG h;rw [qc] at h1;unfold zkF at h;rw [h2] at h;obtain ⟨h3,h4⟩:=zbfw h;exact ⟨⟨h1.1,h1.2,zux.2 ⟨h3,zbe0 (zZr h1.1) (zZr h1.2)⟩⟩,h2.trans h4⟩
theorem zH7 {a:yB} (h:ze0 a=true):zlO a=(a,0):=by unfold zlO; rw [h]; rfl
theorem zbep {a b:yB} (ha:zX a=true) (hb:zX b=true) (h:ze0 (zeC a b)=true):zkF a b=(zeC a b,0):=by
 unfold zkF; rw [ha,hb,zH7 h]; rfl
theorem z9z {a b:yB} (ha:zX a=true) (hb:zX b=true) (h:ze0 (ztd a b)=true):zIq a b=(ztd a b,0):=by
 unfold zIq; rw [ha,hb,zH7 h]; rfl
theorem zY5 {x:At}:zow x=true↔VA zX x:=zdl
theorem z9J {x:At} (h:zow x=true) (hw:ze0 (zcN x)=true):zX (zcN x)=true:=zux.2 ⟨hw,zbd6 h⟩
def sbd {α β:Type} (x:Int⊕α) (k:α->Int⊕β):Int⊕β:=match x with
 | .inl e=>.inl e
 | .inr a=>k a
theorem zWn {α β:Type} (e:Int) (k:α->Int⊕β):sbd (.inl e) k=.inl e:=rfl
theorem zdn {α β:Type} (a:α) (k:α->Int⊕β):sbd (.inr a) k=k a:=rfl
def opS (r:yB×Int):Int⊕yB:=if r.2=0 then .inr r.1 else .inl r.2
def ofS:Int⊕yB->yB×Int
 | .inl e=>([],e)
 | .inr a=>(a,0)
theorem zWm {r:yB×Int} (h:r.2=0\/r.1=[]):ofS (opS r)=r:=by
 obtain ⟨a,e⟩:=r;simp only at h;unfold opS;by_cases he:e=0
 ·subst he; simp [ofS]
 ·rw [if_neg he];rcases h with h | h
  ·exact absurd h he
  ·subst h; rfl
theorem z7g {a:yB}:opS (a,0)=.inr a:=rfl
def zz4 (b:yB):Nat->yB->Int⊕yB
 | 0,p=>.inr p
 | n+1,p=>sbd (opS (zIq p b)) (zz4 b n)
mutual
def zhP (to:RowID->yB):At->Int⊕yB
 | ⟨k,r,a,f,i,o,b⟩=>if k=0 then .inr (to r) else
  sbd (zkC to a) λxs=>if k=1 then opS (zQp (xs.getD 0 default) (xs.getD 1 default)) else if k=2 then opS (zQM (xs.getD 0 default)) else if k=3 then opS (zQg (xs.getD 0 default)) else
   sbd (zhe to i) λis=>opS (zwR f is o b)
def zej (to:RowID->yB):yC->yB->Int⊕yB
 | [],p=>.inr p
 | ⟨x,e⟩::r,p=>sbd (zhP to x) λb=>sbd (zz4 b e.toNat p) λq=>zej to r q
def zdr (to:RowID->yB):yB->yB->Int⊕yB
 | [],s=>.inr s
 | ⟨c,fs⟩::r,s=>sbd (zej to fs (zAB c)) λp=>sbd (opS (zkF s p)) λq=>zdr to r q
def zkC (to:RowID->yB):yA->Int⊕yA
 | []=>.inr []
 | a::r=>sbd (zdr to a []) λb=>sbd (zkC to r) λl=>.inr (b::l)
def zhe (to:RowID->yB):yD->Int⊕yD
 | []=>.inr []
 | ⟨v,a⟩::r=>sbd (zdr to a []) λb=>sbd (zhe to r) λl=>.inr (⟨v,b⟩::l)
end
variable (to:RowID->yB)
theorem zRz (p:yB):zej to [] p=.inr p:=by rw [zej]
theorem zOX (f:Fc) (r:yC) (p:yB):zej to (f::r) p=sbd (zhP to f.At) λb=>sbd (zz4 b f.Exp.toNat p) λq=>zej to r q:=by cases f; rw [zej]
theorem z4l (s:yB):zdr to [] s=.inr s:=by rw [zdr]
theorem z0t (t:Term) (r s:yB):zdr to (t::r) s=sbd (zej to t.Fs (zAB t.Cf)) λp=>sbd (opS (zkF s p)) λq=>zdr to r q:=by cases t; rw [zdr]
theorem zBP:zkC to []=.inr []:=by rw [zkC]
theorem zzK (a:yB) (r:yA):zkC to (a::r)=sbd (zdr to a []) λb=>sbd (zkC to r) λl=>.inr (b::l):=by rw [zkC]
theorem zX0:zhe to []=.inr []:=by rw [zhe]
theorem zUk (w:Wd) (r:yD):zhe to (w::r)=sbd (zdr to w.Ann []) λb=>sbd (zhe to r) λl=>.inr (⟨w.Value,b⟩::l):=by cases w; rw [zhe]
theorem z3V (x:At):zhP to x=if x.Kind=0 then .inr (to x.Row) else
  sbd (zkC to x.Ag) λxs=>if x.Kind=1 then opS (zQp (xs.getD 0 default) (xs.getD 1 default)) else if x.Kind=2 then opS (zQM (xs.getD 0 default)) else if x.Kind=3 then opS (zQg (xs.getD 0 default)) else
   sbd (zhe to x.Items) λis=>opS (zwR x.Func is x.Op x.Bd):=by cases x; rw [zhP]
def GE {α:Type} (P:α->Prop):Int⊕α->Prop
 | .inl e=>e≠0
 | .inr a=>P a
abbrev GS:Int⊕yB->Prop:=GE okA
theorem zPP {r:yB×Int} (h:okR r):GS (opS r):=by
 unfold opS;by_cases he:r.2=0
 ·rw [if_pos he]; exact h.1
 ·rw [if_neg he]; exact he
theorem zK6 {α β:Type} {P:α->Prop} {Q:β->Prop} {x:Int⊕α} {k:α->Int⊕β} (hx:GE P x) (hk:∀ a,P a->GE Q (k a)):GE Q (sbd x k):=by
 cases x with
 | inl e=>exact hx
 | inr a=>exact hk a hx
theorem z6E {b:yB} (hb:okA b):∀ (n:Nat) (p:yB),okA p->GS (zz4 b n p)
 | 0,p,hp=>hp
 | n+1,p,hp=>zK6 (zPP (z87 hp hb)) λq hq=>z6E hb n q hq
abbrev GL (n:Nat):Int⊕yA->Prop:=GE λl=>l.length=n/\∀ a∈l,okA a
abbrev GI (i:yD):Int⊕yD->Prop:=GE λl=>l.length=i.length/\∀ w∈l,okA w.Ann/\∃ v∈i,v.Value=w.Value
theorem z95 (w:Wd):zNm w↔zMN w.Value/\zgh w.Ann/\w.Ann.length<=zZ:=by cases w; unfold zNm; exact Iff.rfl
theorem zbbC {k f o:Int} {r:RowID} {a:yA} {i:yD} {b:Value} (h1:wf3 k) (h2:zYY r) (h3:zvE a/\a.length<=zZ) (h4:wf3 f) (h5:zru i/\i.length<=zZ) (h6:wf3 o) (h7:zMN b):zhD ⟨k,r,a,f,i,o,b⟩:=by
 unfold zhD; exact ⟨h1,h2,h3,h4,h5,h6,h7⟩
theorem z4k {f o:Int} {l:yD} {b:Value} (hl:l.length<=1000000) (h:∀ w∈l,okA w.Ann/\zMN w.Value) (hf:wf3 f) (ho:wf3 o) (hb:zMN b):okR (zwR f l o b):=by
 unfold zwR;cases hk:zzh f l o b with
 | false=>exact ⟨zlD,.inr rfl⟩
 | true=>
  cases hv:l.all λw=>zX w.Ann with
  | false=>exact ⟨zlD,.inr rfl⟩
  | true=>
   simp only [Bool.and_self,Bool.not_true,cond_false];cases decide (0<(zdJ l).length) with
   | true=>
    obtain ⟨tf,ts⟩:=zJ9 hl hk hv;have hr:zZ=140737488351232:=rfl;have hlen:(zdJ l).length<=1000000:=by rw [z1n]; exact Nat.le_trans (List.length_filter_le _ _) hl
    refine zH9 ⟨⟨tf.mono (by omega),ts⟩,zJg _ λt ht=> ?_,by simp [zcN,zZ]⟩
    simp only [zcN,qh] at ht;subst ht;refine zTZ ⟨by simp,by simp⟩ (λg hg=> ?_) (by simp)
    simp only [qh] at hg;subst hg;refine ⟨zbbC (zUB (zT5 (by omega))) ⟨zpE,zpE⟩ ⟨by unfold zvE; trivial,by simp⟩ hf ⟨z1m _ λw hw=> ?_,by omega⟩ ho hb,⟨by simp,by simp⟩⟩
    have hm:=h w (zHr hw).1;exact (z95 w).2 ⟨hm.2,hm.1.2⟩
   | false=>
    cases f==0&&zL4 o (zdX 0 b.Int) with
    | true=>exact ⟨zWo 1 (by omega),.inl rfl⟩
    | false=>exact ⟨zlD,.inl rfl⟩
theorem zQo {l:yA} (h:∀ a∈l,okA a) (i:Nat):okA (l.getD i default):=by
 by_cases hi:i<l.length
 ·exact h _ (zn hi)
 ·rw [List.getD_eq_getElem?_getD,List.getElem?_eq_none (by omega)]; exact zlD
def okT (to:RowID->yB):Prop:=∀ r,zYY r->okA (to r)
variable {to}
mutual
theorem z4c (ht:okT to):∀ (x:At) (d:Nat),zhD x->zc0 (zo d) x->GS (zhP to x)
 | ⟨k,r,a,f,i,o,b⟩=>λd hw hi=>by
  have hw':=zsa hw;simp only at hw';obtain ⟨⟨ha,hal⟩,⟨hit,hil⟩,hb,hk,hr,hf,ho⟩:=hw';obtain ⟨⟨l1,l2,_⟩,f1,f2⟩:=hi;simp only at l1 l2 f1 f2;rw [zhP];by_cases hk0:k=0
  ·rw [if_pos hk0]; exact ht r hr
  ·rw [if_neg hk0];have hA:=zVl ht a d (λx hx=>(zje ha x hx).1) f1
   refine zK6 hA λxs has=> ?_
   have h0:=zQo has.2 0;have h1:=zQo has.2 1;split
   ·exact zPP (z9r h0 h1)
   ·split
    ·exact zPP (z9D h0)
    ·split
     ·exact zPP (z9m h0)
     ·have hI:=zPH ht i d (λx hx=>(zi9 hit x hx).2.1) λw hw=>(f2 w hw).2
      refine zK6 hI λis his=> ?_
      refine zPP (z4k (by omega) (λw hw=>⟨(his.2 w hw).1, ?_⟩) hf ho hb)
      obtain ⟨v,hv,e⟩:=(his.2 w hw).2;rw [<- e]; exact (zi9 hit v hv).1
theorem zIX (ht:okT to):∀ (l:yC) (d:Nat),(∀ f∈l,zhD f.At/\zc0 (zo d) f.At)->∀ p,okA p->GS (zej to l p)
 | [],_,_,p,hp=>by rw [zej]; exact hp
 | ⟨x,e⟩::r,d,h,p,hp=>by
  rw [zej];have hx:=z4c ht x d (h ⟨x,e⟩ (by simp)).1 (h ⟨x,e⟩ (by simp)).2
  refine zK6 hx λb hb=>zK6 (z6E hb _ p hp) λq hq=> ?_
  exact zIX ht r d (λf hf=>h f (by simp [hf])) q hq
theorem zPE (ht:okT to):∀ (a:yB) (d:Nat),zgh a->(∀ t∈a,∀ f∈t.Fs,zc0 (zo d) f.At)->∀ s,okA s->GS (zdr to a s)
 | [],_,_,_,s,hs=>by rw [zdr]; exact hs
 | ⟨c,fs⟩::r,d,hw,hi,s,hs=>by
  rw [zdr];have hwt:=zrI hw ⟨c,fs⟩ (by simp)
  have hp:=zIX ht fs d (λf hf=>⟨(zpH (znP (zuE hwt).2.1 f hf)).1,hi ⟨c,fs⟩ (by simp) f hf⟩) (zAB c) (zbaQ c)
  refine zK6 hp λp hp=>zK6 (zPP (z2y hs hp)) λq hq=> ?_
  exact zPE ht r d (zJg _ λt ht=>zrI hw t (by simp [ht])) (λt ht=>hi t (by simp [ht])) q hq
theorem zVl (ht:okT to):∀ (l:yA) (d:Nat),(∀ a∈l,zgh a)->(∀ a∈l,zo d a)->GL l.length (zkC to l)
 | [],_,_,_=>by rw [zkC]; exact ⟨rfl,λa ha=>by cases ha⟩
 | a::r,d,h,hi=>by
  rw [zkC];have hf:=hi a (by simp)
  have h1:GS (zdr to a []):=by
   cases d with
   | zero=>exact hf.elim
   | succ d=>exact zPE ht a d (h a (by simp)) (λt ht f hf'=>(hf.2 t ht).2 f hf') [] zlD
  have h2:=zVl ht r d (λb hb=>h b (by simp [hb])) (λb hb=>hi b (by simp [hb]))
  revert h1 h2;cases zdr to a [] with
  | inl e=>exact λh _=>h
  | inr b=>
   cases zkC to r with
   | inl e=>exact λ_ h=>h
   | inr l=>
    intro h1 h2;refine ⟨by simp [h2.1],λx hx=> ?_⟩
    rcases qd.1 hx with rfl | hx
    ·exact h1
    ·exact h2.2 x hx
theorem zPH (ht:okT to):∀ (l:yD) (d:Nat),(∀ w∈l,zgh w.Ann)->(∀ w∈l,zo d w.Ann)->GI l (zhe to l)
 | [],_,_,_=>by rw [zhe]; exact ⟨rfl,λa ha=>by cases ha⟩
 | ⟨v,a⟩::r,d,h,hi=>by
  rw [zhe];have hf:zo d a:=hi ⟨v,a⟩ (by simp)
  have h1:GS (zdr to a []):=by
   cases d with
   | zero=>exact hf.elim
   | succ d=>exact zPE ht a d (h ⟨v,a⟩ (by simp)) (λt ht f hf'=>(hf.2 t ht).2 f hf') [] zlD
  have h2:=zPH ht r d (λb hb=>h b (by simp [hb])) (λb hb=>hi b (by simp [hb]))
  revert h1 h2;cases zdr to a [] with
  | inl e=>exact λh _=>h
  | inr b=>
   cases zhe to r with
   | inl e=>exact λ_ h=>h
   | inr l=>
    intro h1 h2;refine ⟨by simp [h2.1],λx hx=> ?_⟩
    rcases qd.1 hx with rfl | hx
    ·exact ⟨h1,⟨v,a⟩,by simp,rfl⟩
    ·obtain ⟨h3,w,hw,e⟩:=h2.2 x hx;exact ⟨h3,w,by simp [hw],e⟩
end
end Go.Proofs.YtoknknbmfmddbaaGreatDoor
namespace Go.Proofs.YtoknknbmfmddbaaGreatDoor
open Go Go.Ab
end Go.Proofs.YtoknknbmfmddbaaGreatDoor
/- Substitution: both sides compute the same. -/
namespace Go.Proofs.YtoknknbmfmddbaaGreatDoor
open Go Go.Ab
def toA:yE->RowID->yB
 | [],r=>zjm r
 | b::l,r=>if b.Row=r then b.To else toA l r
def okB (l:yE):Prop:=l.length<=1000/\∀ b∈l,okA b.To
theorem zbbd:∀ {l:yE},(∀ b∈l,okA b.To)->okT (toA l)
 | [],_,r,hr=>by rw [toA]; exact zbbn hr
 | b::l,h,r,hr=>by
  rw [toA];split
  ·exact h b (by simp)
  ·exact zbbd (λc hc=>h c (by simp [hc])) r hr
theorem zbdU (a b:RowID):(a.Table==b.Table&&(a.Seq==b.Seq&&true))=decide (a=b):=by
 obtain ⟨t,s⟩:=a; obtain ⟨t',s'⟩:=b;rw [Bool.and_true,zga,zga, <- Bool.decide_and];congr 1;simp
theorem z89:∀ (l:yE) (r:RowID) (i:Nat),(ixf (λb=>decide (b.Row=r)) l i= -1/\toA l r=zjm r)\/∃ j,j<l.length/\ixf (λb=>decide (b.Row=r)) l i=((i+j:Nat):Int)/\toA l r=(l.getD j default).To
 | [],r,i=>.inl ⟨rfl,rfl⟩
 | b::l,r,i=>by
  rw [ixf,toA];by_cases h:b.Row=r
  ·rw [decide_eq_true h,cond_true,if_pos h];exact .inr ⟨0,by simp,rfl,rfl⟩
  ·rw [decide_eq_false h,cond_false,if_neg h];rcases z89 l r (i+1) with ⟨h1,h2⟩ | ⟨j,h1,h2,h3⟩
   ·exact .inl ⟨h1,h2⟩
   ·exact .inr ⟨j+1,by simp; omega,by rw [h2]; congr 1; omega,h3⟩
theorem zbgI {l:yE} (h:okB l) (r:RowID):zhG r l=(true,toA l r):=by
 unfold zhG zvx
 have hi:zct l r=(true,ixf (λb=>decide (b.Row=r)) l 0):=by
  have e:zct l r=IH (λ(g:RowID×Unit) x=>zfG x g.1) (l.length+(Int.ofNat l.length).toNat +Int.toNat (0:Int)+(1:Nat)) (r,()) l:=rfl
  rw [e]
  exact zbaG _ _ _ _ _ (by have:=h.1; omega) (λx _=>by
   unfold zfG zs2;rw [Wy.fin_k,zbdU]) (by omega)
 rw [Wy.fin_bn,hi];rcases z89 l r 0 with ⟨h1,h2⟩ | ⟨j,h1,h2,h3⟩
 ·rw [h1,h2];simp only [cond_true,Wy.fin_i,Wy.fin_bn,Wy.fin_k,(z6a r).1];rfl
 ·rw [Nat.zero_add] at h2;rw [h2,h3];have hm:=h.2 _ (zn h1);have e1:decide ((j:Int)≥(0:Int))=true:=by simp
  simp only [cond_true,Wy.fin_i,Wy.fin_bn,Wy.fin_k,e1,tT,h1,zFJ hm.1.1 (show (12:Nat)<=100 by omega)]
def RS (s:Int⊕yB) (e:Int) (p:yB):Prop:=match s with
 | .inl x=>e=x/\x≠0
 | .inr q=>e=0/\p=q
theorem zbgJ (r:yB×Int):RS (opS r) r.2 r.1:=by
 unfold opS;by_cases h:r.2=0
 ·rw [if_pos h]; exact ⟨h,rfl⟩
 ·rw [if_neg h]; exact ⟨rfl,h⟩
theorem zbcb (b:yB) (s:Int⊕yB):sbd s (zz4 b 0)=s:=by cases s <;>rfl
section
variable (g:At->yE->Bool×(yB×Int)) (to:yE)
theorem z9P (b:yB) (hb:okA b) (t16:yB) (t17 t18:Int) (t26:yC) (t27 t28:Int) (N:Nat) (hN:N<=1000000) (sum:yB):
  ∀ (n i:Nat) (e:Int) (p:yB) (s:Int⊕yB),N<i+n->i<=N->GS s->RS s e p->∃ e' p',zp1 g n to b e t16 t17 t18 t26 t27 t28 N i sum p=(true,(to,e',t16,t17,t18,t26,t27,t28,sum,p'))/\RS (sbd s (zz4 b (N - i))) e' p'
 | 0,i,e,p,s,h1,h2,_,_=>by omega
 | n+1,i,e,p,s,h1,h2,hs,hr=>by
  show ∃ e' p',(zqd g to b e t16 t17 t18 t26 t27 t28 N i sum p).ev (λx y=>zp1 g n x.1.1.1 x.2.2.2.1 x.2.2.2.2.1 x.2.2.2.2.2.1 x.2.2.2.2.2.2.1 x.2.2.2.2.2.2.2.1 x.2.2.2.2.2.2.2.2.1 x.2.2.2.2.2.2.2.2.2.1 x.2.2.2.2.2.2.2.2.2.2.1 x.2.2.2.2.2.2.2.2.2.2.2.1 x.2.2.2.2.2.2.2.2.2.2.2.2.1 y.1 y.2.1) (λr=>(true,r)) (false,default)=_/\_
  unfold zqd;by_cases hi:i<N
  ·have hk:N - i=(N - (i+1))+1:=by omega
   cases s with
   | inl x=>
    obtain ⟨rfl,hx⟩:=hr;have he:(e==(0:Int))=false:=by simp [hx]
    simp only [Wy.ev_i,Wy.ev_k,Wy.ev_h,Wy.ev_bn,Wy.ev_d,zzG,hi,decide_true,cond_true,he,cond_false,zD (show i<4611686018427387904 by omega)]
    exact z9P b hb t16 t17 t18 t26 t27 t28 N hN sum n (i+1) e p (.inl e) (by omega) (by omega) hs ⟨rfl,hx⟩
   | inr q=>
    obtain ⟨rfl,rfl⟩:=hr;have hp:okA p:=hs;simp only [Wy.ev_i,Wy.ev_k,Wy.ev_h,Wy.ev_bn,Wy.ev_d,zzG,hi,decide_true,cond_true,(zbfL hp hb).1,zD (show i<4611686018427387904 by omega),show ((0:Int)==0)=true from rfl]
    rw [hk];exact z9P b hb t16 t17 t18 t26 t27 t28 N hN sum n (i+1) (zIq p b).2 (zIq p b).1 (opS (zIq p b)) (by omega) (by omega) (zPP (z87 hp hb)) (zbgJ _)
  ·have hk:N - i=0:=by omega
   simp only [Wy.ev_i,Wy.ev_k,zzG,hi,decide_false,cond_false];rw [hk,zbcb];exact ⟨e,p,rfl,hr⟩
def AG (l:yC):Prop:=∀ f∈l,(g f.At to=(true,ofS (zhP (toA to) f.At))/\GS (zhP (toA to) f.At))/\0<=f.Exp/\f.Exp<=1000000
theorem zbe8 {s:Int⊕yB} (h:GS s):okA (ofS s).1:=by
 cases s with
 | inl e=>exact zlD
 | inr a=>exact h
theorem zbc6 {s:Int⊕yB} (h:GS s) (p:yB):RS (sbd s λ_=>.inr p) (ofS s).2 p:=by
 cases s with
 | inl e=>exact ⟨rfl,h⟩
 | inr a=>exact ⟨rfl,rfl⟩
theorem zbb3 {s:Int⊕yB} (h:GS s) {p:yB} (hp:okA p):GS (sbd s λ_=>.inr p):=zK6 h λ_ _=>hp
theorem zbbj {s:Int⊕yB} (p:yB) (N:Nat):sbd (sbd s λ_=>.inr p) (zz4 (ofS s).1 N)=sbd s λb=>zz4 b N p:=by
 cases s <;>rfl
theorem zbe4 (l:yC) (hl:l.length<=1000000) (hg:AG g to l) (t16:yB) (t17 t18:Int) (sum:yB):
  ∀ (n i:Nat) (p:yB),l.length<i+n->i<=l.length->okA p->zq8 g n to t16 t17 t18 l l.length i sum p=(true,match zej (toA to) (l.drop i) p with
   | .inl e=>.inl e
   | .inr q=>.inr (to,t16,t17,t18,sum,q))
 | 0,i,p,h1,h2,_=>by omega
 | n+1,i,p,h1,h2,hp=>by
  show (zrs g to t16 t17 t18 l l.length i sum p).ev (λx y=>zq8 g n x.1.1.1 x.2.2.2.1 x.2.2.2.2.1 x.2.2.2.2.2.1 x.2.2.2.2.2.2.1 x.2.2.2.2.2.2.2.1 x.2.2.2.2.2.2.2.2.1 y.1 y.2.1) (λr=>(true,r)) (false,.inl default)=_
  unfold zrs;by_cases hi:i<l.length
  ·obtain ⟨⟨hf,hG⟩,e0,e1⟩:=hg _ (zn hi);obtain ⟨N,hN⟩:∃ N:Nat,(l.getD i default).Exp=(N:Int):=⟨_,(Int.toNat_of_nonneg e0).symm⟩
   obtain ⟨e',p',h11,hrs⟩:=z9P g to (ofS (zhP (toA to) (l.getD i default).At)).1 (zbe8 hG) t16 t17 t18 l l.length i N (by omega) sum
    (to.length+(ofS (zhP (toA to) (l.getD i default).At)).1.length+(ofS (zhP (toA to) (l.getD i default).At)).2.toNat +t16.length+t17.toNat +t18.toNat +l.length+(l.length:Int).toNat +(i:Int).toNat +(N:Int).toNat +Int.toNat (0:Int)+sum.length+p.length+(1:Nat)) 0 _ p _ (by omega) (by omega) (zbb3 hG hp) (zbc6 hG p)
   rw [zbbj,Nat.sub_zero] at hrs;rw [show ((0:Nat):Int)=(0:Int) from rfl] at h11
   rw [zbf hi,zOX,hN,Int.toNat_natCast];simp only [Wy.ev_i,Wy.ev_k,Wy.ev_h,Wy.ev_bn,Wy.ev_d,tT,hi,At.eta,hf,hN,zsY];rw [show Int.toNat (l.length:Int)=l.length from Int.toNat_natCast _,show Int.toNat (i:Int)=i from Int.toNat_natCast _,show Int.toNat (N:Int)=N from Int.toNat_natCast _] at h11
   rw [h11];have hS:=hG;revert hrs hS;cases zhP (toA to) (l.getD i default).At with
   | inl x=>
    rintro ⟨rfl,hx⟩ _
    simp [hx,zWn]
   | inr b=>
    intro hrs hb;simp only [zdn] at hrs ⊢;have hq:=z6E (b:=b) hb N p hp;revert hrs hq;cases zz4 b N p with
    | inl x=>
     rintro ⟨rfl,hx⟩ _
     simp [hx,zWn]
    | inr q=>
     rintro ⟨rfl,rfl⟩ hq
     simp only [zdn,decide_true,Bool.not_true,cond_true,cond_false,zD (show i<4611686018427387904 by omega)]
     exact zbe4 l hl hg t16 t17 t18 sum n (i+1) p' (by omega) (by omega) hq
  ·simp only [Wy.ev_i,Wy.ev_k,Wy.ev_h,Wy.ev_bn,Wy.ev_d,tT,hi];rw [zce hi,zRz]
theorem zbeZ (l:yB) (hl:l.length<=1000000) (hg:∀ t∈l,t.Fs.length<=1000000/\AG g to t.Fs) (hok:∀ t∈l,∀ p,okA p->GS (zej (toA to) t.Fs p)):
  ∀ (n i:Nat) (s:yB),l.length<i+n->i<=l.length->okA s->zq1 g n to l l.length i s=(true,zdr (toA to) (l.drop i) s)
 | 0,i,s,h1,h2,_=>by omega
 | n+1,i,s,h1,h2,hs=>by
  show (zrh g to l l.length i s).ev (λx y=>zq1 g n x.1.1.1 x.2.2.1 x.2.2.2.1 x.2.2.2.2.1 y.1) (λr=>(true,r)) (false,.inl default)=_
  unfold zrh;by_cases hi:i<l.length
  ·have ht:=hg _ (zn hi);have hc:=zbaQ (l.getD i default).Cf;have h7:=zbe4 g to (l.getD i default).Fs ht.1 ht.2 l l.length i s (to.length+l.length+(l.length:Int).toNat +(i:Int).toNat +(l.getD i default).Fs.length+((l.getD i default).Fs.length:Int).toNat +Int.toNat (0:Int)+s.length+(zAB (l.getD i default).Cf).length+(1:Nat)) 0 (zAB (l.getD i default).Cf) (by omega) (by omega) hc
   rw [show ((0:Nat):Int)=(0:Int) from rfl,List.drop_zero] at h7
   simp only [Int.toNat_natCast] at h7;rw [zbf hi,z0t];simp only [Wy.ev_i,Wy.ev_k,Wy.ev_h,Wy.ev_bn,Wy.ev_d,tT,hi,(zbc9 _).1];rw [h7];have hS:=hok _ (zn hi) _ hc;revert hS;cases zej (toA to) (l.getD i default).Fs (zAB (l.getD i default).Cf) with
   | inl e=>intro _; rfl
   | inr p=>
    intro hp;have hp:okA p:=hp;simp only [zdn,isL,getR,cond_true,cond_false,(zbaN hs hp).1,zsY];have hG:=z2y hs hp;unfold opS;by_cases he:(zkF s p).2=0
    ·rw [if_pos he,decide_eq_true he,zdn,zD (show i<4611686018427387904 by omega)]
     exact zbeZ l hl hg hok n (i+1) _ (by omega) (by omega) hG.1
    ·rw [if_neg he,decide_eq_false he]; rfl
  ·simp only [Wy.ev_i,Wy.ev_k,Wy.ev_h,Wy.ev_bn,Wy.ev_d,tT,hi];rw [zce hi,z4l]
theorem zbgU (a:yB) (hl:a.length<=1000000) (hg:∀ t∈a,t.Fs.length<=1000000/\AG g to t.Fs) (hok:∀ t∈a,∀ p,okA p->GS (zej (toA to) t.Fs p)):zkh g a to=(true,ofS (zdr (toA to) a [])):=by
 unfold zkh zzz;have h3:=zbeZ g to a hl hg hok (to.length+a.length+(Int.ofNat a.length).toNat +Int.toNat (0:Int)+(0:Nat)+(1:Nat)) 0 [] (by omega) (by omega) zlD
 rw [show ((0:Nat):Int)=(0:Int) from rfl,List.drop_zero] at h3
 rw [Wy.fin_bn,show Int.ofNat a.length=(a.length:Int) from rfl] at *
 rw [h3];cases zdr (toA to) a [] <;>rfl
end
section
variable (g:yB->yE->Bool×(yB×Int)) (to:yE)
theorem zbe3 (x:At) (l:yA) (hl:l.length<=1000000) (hg:∀ a∈l,g a to=(true,ofS (zdr (toA to) a []))/\GS (zdr (toA to) a [])):
  ∀ (n i:Nat) (xs:yA),l.length<i+n->i<=l.length->xs.length<=i->ziK g n to l l.length i x xs=(true,match zkC (toA to) (l.drop i) with
   | .inl e=>.inl e
   | .inr ys=>.inr (to,x,xs++ys))
 | 0,i,xs,h1,h2,_=>by omega
 | n+1,i,xs,h1,h2,hx=>by
  have hreach:zF=70368744177664:=rfl;show (zmm g to l l.length i x xs).ev (λx y=>ziK g n x.1.1.1 x.2.2.2.1 x.2.2.2.2.1 x.2.2.2.2.2.1 y.1 y.2.1) (λr=>(true,r)) (false,.inl default)=_
  unfold zmm;by_cases hi:i<l.length
  ·obtain ⟨hf,hG⟩:=hg _ (zn hi);have hb:decide ((xs.length+1)*24<=zF)=true:=by simp only [qe]; omega
   rw [zbf hi,zzK];simp only [Wy.ev_i,Wy.ev_k,Wy.ev_h,Wy.ev_bn,Wy.ev_d,tT,hi,hf,zsY,List.length_singleton,hb];revert hG;cases zdr (toA to) (l.getD i default) [] with
   | inl e=>intro he; simp [ofS,show e≠0 from he,zWn]
   | inr b=>
    intro _;simp only [ofS,decide_true,Bool.not_true,cond_false,zdn,zD (show i<4611686018427387904 by omega)]
    rw [zbe3 x l hl hg n (i+1) (xs++[b]) (by omega) (by omega) (by simp; omega)]
    cases zkC (toA to) (l.drop (i+1)) with
    | inl e=>rfl
    | inr ys=>simp [zdn]
  ·simp only [Wy.ev_i,Wy.ev_k,Wy.ev_h,Wy.ev_bn,Wy.ev_d,tT,hi];rw [zce hi,zBP]; simp
theorem zbdc (x:At) (l:yD) (hl:l.length<=1000000) (hg:∀ w∈l,g w.Ann to=(true,ofS (zdr (toA to) w.Ann []))/\GS (zdr (toA to) w.Ann [])):
  ∀ (n i:Nat) (xs:yD),l.length<i+n->i<=l.length->xs.length<=i->zid g n to l l.length i x xs=(true,match zhe (toA to) (l.drop i) with
   | .inl e=>.inl e
   | .inr ys=>.inr (x,xs++ys))
 | 0,i,xs,h1,h2,_=>by omega
 | n+1,i,xs,h1,h2,hx=>by
  have hreach:zF=70368744177664:=rfl;show (zlN g to l l.length i x xs).ev (λx y=>zid g n x.1.1.1 x.2.2.2.1 x.2.2.2.2.1 x.2.2.2.2.2.1 y.1 y.2.1) (λr=>(true,r)) (false,.inl default)=_
  unfold zlN;by_cases hi:i<l.length
  ·obtain ⟨hf,hG⟩:=hg _ (zn hi);have hb:decide ((xs.length+1)*56<=zF)=true:=by simp only [qe]; omega
   rw [zbf hi,zUk];simp only [Wy.ev_i,Wy.ev_k,Wy.ev_h,Wy.ev_bn,Wy.ev_d,tT,hi,hf,zsY,List.length_singleton,hb];revert hG;cases zdr (toA to) (l.getD i default).Ann [] with
   | inl e=>intro he; simp [ofS,show e≠0 from he,zWn]
   | inr b=>
    intro _;simp only [ofS,decide_true,Bool.not_true,cond_false,zdn,zD (show i<4611686018427387904 by omega)]
    rw [zbdc x l hl hg n (i+1) (xs++[WO.mk (l.getD i default).Value b]) (by omega) (by omega) (by simp; omega)]
    cases zhe (toA to) (l.drop (i+1)) with
    | inl e=>rfl
    | inr ys=>simp [zdn]
  ·simp only [Wy.ev_i,Wy.ev_k,Wy.ev_h,Wy.ev_bn,Wy.ev_d,tT,hi];rw [zce hi,zX0]; simp
structure XG (x:At):Prop where
 va:zow x=true
 lens:x.Ag.length<=1000000/\x.Items.length<20
 ga:∀ a∈x.Ag,g a to=(true,ofS (zdr (toA to) a []))/\GS (zdr (toA to) a [])
 gi:∀ w∈x.Items,g w.Ann to=(true,ofS (zdr (toA to) w.Ann []))/\GS (zdr (toA to) w.Ann [])
 sa:GL x.Ag.length (zkC (toA to) x.Ag)
 si:GI x.Items (zhe (toA to) x.Items)
 wf:zhD x
theorem zbeD {f o:Int} {i l:yD} {b:Value} (h20:i.length<20) (hl:l.length=i.length/\∀ w∈l,okA w.Ann/\∃ v∈i,v.Value=w.Value):zm9 f l o b=(true,zwR f l o b)/\zQe f l o b=(true,zwR f l o b):=by
 have h1:∀ w∈l,zo 12 w.Ann/\zN w.Ann<=4611686018427387904:=λw hw=>(hl.2 w hw).1.1
 have h2:(l.filter zlB).length<20:=Nat.lt_of_le_of_lt (List.length_filter_le _ _) (by omega)
 exact ⟨zbdZ f l o b (by omega) h1 (by omega) h2,zbc7 f l o b (by omega) h1 (by omega)⟩
theorem zbbk {x:At} (h:zow x=true):(x.Kind=1->x.Ag.length=2)/\(x.Kind=2\/x.Kind=3->x.Ag.length=1):=by
 cases zY5.1 h <;>simp
theorem zbeM (hto:okB to) (x:At) (h:XG g to x):zhH g x to=(true,ofS (zhP (toA to) x)):=by
 unfold zhH zvv;have h5:=zbe3 g to x x.Ag h.lens.1 h.ga (to.length+x.Ag.length+(Int.ofNat x.Ag.length).toNat +Int.toNat (0:Int)+x.Ag.length+x.Items.length+(0:Nat)+(1:Nat)) 0 [] (by omega) (by omega) (by simp)
 rw [show ((0:Nat):Int)=(0:Int) from rfl,List.drop_zero] at h5
 have h5':ziK g (to.length+x.Ag.length+(Int.ofNat x.Ag.length).toNat +Int.toNat (0:Int)+x.Ag.length+x.Items.length+(0:Nat)+(1:Nat)) to x.Ag (Int.ofNat x.Ag.length) 0 x []=_:=h5;have h21:=zbdc g to x x.Items (by have:=h.lens.2; omega) h.gi (to.length+x.Items.length+(Int.ofNat x.Items.length).toNat +Int.toNat (0:Int)+x.Ag.length+x.Items.length+(0:Nat)+(1:Nat)) 0 [] (by omega) (by omega) (by simp)
 rw [show ((0:Nat):Int)=(0:Int) from rfl,List.drop_zero] at h21
 have h21':zid g (to.length+x.Items.length+(Int.ofNat x.Items.length).toNat +Int.toNat (0:Int)+x.Ag.length+x.Items.length+(0:Nat)+(1:Nat)) to x.Items (Int.ofNat x.Items.length) 0 x []=_:=h21;rw [At.eta,z3V];have b0:=zga x.Kind 0;have b1:=zga x.Kind 1;have b2:=zga x.Kind 2;have b3:=zga x.Kind 3;simp only [Wy.fin_i,Wy.fin_bn,Wy.fin_k,zbgI hto,cond_true,h5',List.nil_append];by_cases hk0:x.Kind=0
 ·rw [b0,decide_eq_true hk0,if_pos hk0]; rfl
 ·rw [b0,decide_eq_false hk0,if_neg hk0,cond_false];have hA:=h.sa;have hlen:=zbbk h.va;revert hA;cases zkC (toA to) x.Ag with
  | inl e=>intro _; rfl
  | inr xs=>
   intro hxs;have hxl:xs.length=x.Ag.length/\∀ a∈xs,okA a:=hxs;have o0:=zQo hxl.2 0;have o1:=zQo hxl.2 1;simp only [isL,getR,cond_false,zdn];by_cases hk1:x.Kind=1
   ·have:=hlen.1 hk1;rw [b1,decide_eq_true hk1,if_pos hk1];simp only [cond_true,show Int.toNat (0:Int)=0 from rfl,show Int.toNat (1:Int)=1 from rfl,(zbcg o0 o1).1,zWm (z9r o0 o1).2]
    simp [hxl.1,this]
   ·rw [b1,decide_eq_false hk1,if_neg hk1,cond_false];by_cases hk2:x.Kind=2
    ·have:=hlen.2 (.inl hk2);rw [b2,decide_eq_true hk2,if_pos hk2];simp only [cond_true,show Int.toNat (0:Int)=0 from rfl,show Int.toNat (1:Int)=1 from rfl,(zbco o0).1,zWm (z9D o0).2]
     simp [hxl.1,this]
    ·rw [b2,decide_eq_false hk2,if_neg hk2,cond_false];by_cases hk3:x.Kind=3
     ·have:=hlen.2 (.inr hk3);rw [b3,decide_eq_true hk3,if_pos hk3];simp only [cond_true,show Int.toNat (0:Int)=0 from rfl,show Int.toNat (1:Int)=1 from rfl,(zbaU o0).1,zWm (z9m o0).2]
      simp [hxl.1,this]
     ·rw [b3,decide_eq_false hk3,if_neg hk3,cond_false,At.eta,h21'];have hI:=h.si;revert hI;cases zhe (toA to) x.Items with
      | inl e=>intro _; rfl
      | inr is=>
       intro his;have ht:=zbeD (f:=x.Func) (o:=x.Op) (b:=x.Bd) h.lens.2 his;simp only [cond_true,cond_false,List.nil_append,ht.1,zdn];have hw:=zsa h.wf;have hl:is.length=x.Items.length/\∀ w∈is,okA w.Ann/\∃ v∈x.Items,v.Value=w.Value:=his
       rw [zWm (z4k (by have:=h.lens.2; omega) (λw hw'=>⟨(hl.2 w hw').1,by
        obtain ⟨v,hv,e⟩:=(hl.2 w hw').2;rw [<- e]; exact (zi9 hw.2.1.1 v hv).1⟩) hw.2.2.2.2.2.1 hw.2.2.2.2.2.2 hw.2.2.1).2]
end
theorem zbc0 {a b:yB} (ha:okA a) (hb:okA b):zx5 a b=(true,zkF a b):=by
 unfold zx5 zLV zkF;simp only [Wy.fin_bn,Wy.fin_i,Wy.fin_k,ha.rvalid,hb.rvalid,cond_true];cases va:zX a with
 | false=>first | trivial | rfl
 | true=>
  cases vb:zX b with
  | false=>first | trivial | rfl
  | true=>
   obtain ⟨sa,la,ta⟩:=zsF va ha.2.1;obtain ⟨sb,lb,tb⟩:=zsF vb hb.2.1;have ga:∀ t∈a,GT t:=λt ht=>(ta t ht).1
   have gb:∀ t∈b,GT t:=λt ht=>(tb t ht).1
   have hsl:(zeC a b).length<=1000000:=by have:=zD4 b a; omega
   obtain ⟨f1,f2⟩:=z1l hsl (zJV b a sa ga gb);simp only [Bool.not_true,cond_false,Bool.and_self,z8M a b ga gb sa la lb,zIW f1 (by omega:10<=100) f2,cond_true] <;>first | trivial | rfl
end Go.Proofs.YtoknknbmfmddbaaGreatDoor
end
