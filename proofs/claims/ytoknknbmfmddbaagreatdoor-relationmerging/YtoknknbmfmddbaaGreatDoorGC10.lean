/- Texts of this claim, joined (the program, its functions in plain words, and what they compute). -/
import Derived.Test.YtoknknbmfmddbaaGreatDoorGC9
set_option autoImplicit false
set_option linter.unusedVariables false
set_option linter.unusedSectionVars false
set_option linter.unusedSimpArgs false
set_option maxRecDepth 1000000
set_option maxHeartbeats 0
/- The operations of both sides. -/
noncomputable section
namespace Go.Proofs.YtoknknbmfmddbaaGreatDoor
open Go Go.Ab
theorem zOP {B:Nat}:∀ l:yC,(∀ f∈l,ze6 f.At<=B)->zbH l<=l.length*B
 | [],_=>by rw [ziq]; simp
 | f::r,h=>by
  have h1:=h f (by simp)
  have h2:=zOP r λg hg=>h g (by simp [hg])
  rw [zcZ,qf,Nat.add_mul]; omega
theorem zZk {B:Nat}:∀ l:yB,(∀ t∈l,1+t.Fs.length+zbH t.Fs<=B)->zM l<=l.length*B
 | [],_=>by rw [zvC]; simp
 | f::r,h=>by
  have h1:=h f (by simp)
  have h2:=zZk r λg hg=>h g (by simp [hg])
  rw [zfL,qf,Nat.add_mul]; omega
theorem z3b {l:yB} (hl:l.length<=1000000) (h:∀ t∈l,GT t):zn 10 l/\zM l<=4611686018427387904:=by
 refine ⟨⟨hl,λt ht=>(h t ht).fine⟩, ?_⟩
 refine Nat.le_trans (zZk (B:=4195330000) l λt ht=> ?_) (by have:=Nat.mul_le_mul hl (Nat.le_refl 4195330000); omega)
 have hg:=h t ht;have h1:=zOP (B:=4195328) t.Fs λf hf=>zWi (hg.2.2 f hf).1.1 (hg.2.2 f hf).1.2.2
 have:=Nat.mul_le_mul hg.2.1 (Nat.le_refl 4195328);have:=hg.2.1;omega
theorem z5a {t:Term} (ht:GT t) {l:yB} (hs:Srs l) (h:∀ x∈l,GT x):∀ x∈zg1 t l,GT x:=λx hx=>by
 have hc:=z2O ht.1 (λy hy=>(h y hy).1) x hx
 rcases (zyy hs).1 hx with ⟨h1,_⟩ | ⟨h1,_⟩
 ·exact h x h1
 ·exact ⟨hc,by rw [h1]; exact ht.2⟩
theorem zNC:∀ (b a:yB),Srs a->(∀ x∈a,GT x)->(∀ x∈b,GT x)->∀ x∈zcp a b,GT x
 | [],_,_,ha,_=>ha
 | t::r,a,hs,ha,hb=>zNC r (zg1 t a) (zyF hs) (z5a (hb t (by simp)) hs ha) λx hx=>hb x (by simp [hx])
theorem zOW {x y:Term} (hx:VT x) (hy:VT y):GT (zi1 x y):=by
 obtain ⟨gx,sx,lx,ex⟩:=hx;obtain ⟨gy,sy,ly,ey⟩:=hy;refine ⟨(zYZ gx.1 gy.1).1,by have:=zIX x.Fs y.Fs; show (zbz x.Fs y.Fs).length<=1000; omega,λf hf=> ?_⟩
 obtain ⟨g,hg,e⟩:=zs5 hf;have hb:=zI3 (B:=64) (λz hz=>⟨(gx.2.2 z hz).2.1,(ex z hz).2⟩) (λz hz=>⟨(gy.2.2 z hz).2.1,(ey z hz).2⟩) hf
 have hv:(zd8 (zbx 9) g.At=true/\zgz g.At/\g.At.Items.length<=1024):=by
  rcases hg with hg | hg
  ·exact (gx.2.2 g hg).1
  ·exact (gy.2.2 g hg).1
 exact ⟨by rw [e]; exact hv,hb.1,by omega⟩
theorem zWQ {a b:yB} (ha:∀ t∈a,VT t) (hb:∀ t∈b,VT t):∀ t∈zfb a b,GT t:=λt ht=>by
 obtain ⟨x,hx,y,hy,rfl⟩:=z1q ht;exact zOW (ha x hx) (hb y hy)
theorem zbbX {x y:Term} (hx:VT x) (hy:VT y):znc x.Fs y.Fs=(true,zbz x.Fs y.Fs):=by
 obtain ⟨gx,sx,lx,ex⟩:=hx;obtain ⟨gy,sy,ly,ey⟩:=hy;exact zbbv (d:=9) (by omega) _ _ (by omega) (λf hf=>⟨zvG (gx.2.2 f hf).1.1 (gx.2.2 f hf).1.2.2,by have:=(gx.2.2 f hf).2; omega⟩) λf hf=>by have:=(gy.2.2 f hf).2; omega
theorem zbeg (a b:yB) (i:Int) (x:Term) (hx:VT x) (hb:∀ t∈b,VT t) (hbl:b.length<=512) (terms:yB) (hl:terms.length<=1000000) (n:Nat) (hn:b.length<n):
  zGF n b a a.length i b b.length 0 terms x=(true,(b,a,(a.length:Int),i,terms++b.map (zi1 x))):=by
 have hreach:zI=70368744177664:=rfl
 have:=zcz (W:=zzf) (z:=default) b.length (λj=>(b,(),(),a,(a.length:Int),i,b,(b.length:Int),(j:Int),())) (λj=>(terms++(b.take j).map (zi1 x),x,())) (λ_=>true) default (b,a,(a.length:Int),i,terms++b.map (zi1 x))
  (λj hj H K D=>by
   show (zoi b a a.length i b b.length j (terms++(b.take j).map (zi1 x)) x).ev H K D=_;unfold zoi;have hy:=hb _ (zm hj);have hr:decide (((terms++(b.take j).map (zi1 x)).length+1)*32<=zI)=true:=by simp only [qe,qg,List.length_map,List.length_take]; omega
   simp only [Wy.ev_i,Wy.ev_k,Wy.ev_h,Wy.ev_bn,Wy.ev_d,tT,hj,(z4f hx.1.1 hy.1.1).1,zbbX hx hy,List.length_singleton,hr];rw [zy (by omega),zgJ hj,List.map_append, <- List.append_assoc]
   rfl)
  (λH K D=>by
   show (zoi b a a.length i b b.length b.length (terms++(b.take b.length).map (zi1 x)) x).ev H K D=_;unfold zoi;simp only [Wy.ev_i,Wy.ev_k,tT,Nat.lt_irrefl,List.take_length]) n hn
 rw [show zer (λ_=>true) b.length 0=true from zdx.2 λ_ _ _=>rfl] at this
 simp only [List.take_zero,List.map_nil,List.append_nil] at this;exact this
theorem zber (a b:yB) (ha:∀ t∈a,VT t) (hb:∀ t∈b,VT t) (hal:a.length<=512) (hbl:b.length<=512) (n:Nat) (hn:a.length<n):
  zzb n b a a.length 0 []=(true,zfb a b):=by
 have:=zcz (W:=zy7) (z:=default) a.length (λi=>(b,(),a,(a.length:Int),(i:Int),())) (λi=>(zfb (a.take i) b,())) (λ_=>true) default (zfb a b)
  (λi hi H K D=>by
   show (zoA b a a.length i (zfb (a.take i) b)).ev H K D=_;unfold zoA;have hx:=ha _ (zm hi)
   have hlen:(zfb (a.take i) b).length<=1000000:=by
    rw [zUK,List.length_take];have:=Nat.mul_le_mul (show min i a.length<=512 by omega) hbl
    omega
   simp only [Wy.ev_i,Wy.ev_k,Wy.ev_h,Wy.ev_bn,Wy.ev_d,tT,hi];rw [zbeg a b i _ hx hb hbl _ hlen _ (by omega)]
   simp only [cond_true];rw [zy (by omega),zgJ hi]
   have e:zfb (a.take i++[a.getD i default]) b=zfb (a.take i) b++b.map (zi1 (a.getD i default)):=by
    unfold zfb; rw [List.flatMap_append]; simp
   rw [e])
  (λH K D=>by
   show (zoA b a a.length a.length (zfb (a.take a.length) b)).ev H K D=_;unfold zoA;simp only [Wy.ev_i,Wy.ev_k,tT,Nat.lt_irrefl,List.take_length]) n hn
 rw [show zer (λ_=>true) a.length 0=true from zdx.2 λ_ _ _=>rfl] at this
 exact this
theorem szTs_get' (a:yB) (i:Nat) (h:i<a.length):(a.getD i default).Fs.length<=zgt a:=zJ1 a i h
theorem z92 (a b:yB) (i:Int) (k:Nat) (hk:k<b.length) (out:yB) (c:Int) (x:Term) (hx:VT x) (hy:VT (b.getD k default)) (n:Nat) (hn:(b.getD k default).Fs.length<n):
  zGY n a b i k 0 out c x.Fs=(true,(a,b,i,(k:Int),out,c,zbz x.Fs (b.getD k default).Fs)):=by
 obtain ⟨gx,sx,lx,ex⟩:=hx;obtain ⟨gy0,sy,ly,ey⟩:=hy;have gy:∀ f∈(b.getD k default).Fs,GF f:=gy0.2.2;have sy:Srf (b.getD k default).Fs:=sy;clear gy0;generalize hF:(b.getD k default).Fs=F at *
 have key:∀ j,j<F.length->zFH (F.getD j default) (zbz x.Fs (F.take j))=zbz x.Fs (F.take (j+1)):=λj hj=>by
  have e1:=zPl (F.take j) x.Fs (sy.sublist (List.take_sublist _ _)) (λz hz=>(ex z hz).1) λz hz=>(ey z (List.mem_of_mem_take hz)).1
  have e2:=zPl (F.take (j+1)) x.Fs (sy.sublist (List.take_sublist _ _)) (λz hz=>(ex z hz).1) λz hz=>(ey z (List.mem_of_mem_take hz)).1
  rw [<- e1, <- e2,zgJ hj,List.foldl_append]; rfl
 have:=zcz (W:=zGz) (z:=default) F.length (λj=>(a,b,(),i,(k:Int),(),(j:Int),())) (λj=>(out,(c,zbz x.Fs (F.take j),()),())) (λ_=>true) default (a,b,i,(k:Int),out,c,zbz x.Fs F)
  (λj hj H K D=>by
   show (zoj a b i k j out c (zbz x.Fs (F.take j))).ev H K D=_;unfold zoj;have hlen:=zIX x.Fs (F.take j);rw [List.length_take] at hlen;have hex:=λz (hz:z∈zbz x.Fs (F.take j))=>zI3 (B:=64) (λz hz=>⟨(gx.2.2 z hz).2.1,(ex z hz).2⟩) (λz hz=>⟨(gy z (List.mem_of_mem_take hz)).2.1,(ey z (List.mem_of_mem_take hz)).2⟩) hz
   have hfine:∀ z∈zbz x.Fs (F.take j),zc7 (zn 9) z.At:=λz hz=>by
    obtain ⟨w,hw,e⟩:=zs5 hz;rw [e];rcases hw with hw | hw
    ·exact zvG (gx.2.2 w hw).1.1 (gx.2.2 w hw).1.2.2
    ·exact zvG (gy w (List.mem_of_mem_take hw)).1.1 (gy w (List.mem_of_mem_take hw)).1.2.2
   have hm:=zm hj;have e1:decide ((k:Int)<Int.ofNat b.length)=true:=by simp [hk]
   have e2:decide ((j:Int)<Int.ofNat F.length)=true:=by simp [hj]
   have efx:(FO.mk (F.getD j default).At (F.getD j default).Exp:Fc)=F.getD j default:=rfl;simp only [At.eta,Wy.ev_i,Wy.ev_k,Wy.ev_h,Wy.ev_bn,Wy.ev_d,zez,Bool.and_self,cond_true,Int.toNat_natCast,hF,e1,e2,efx];rw [zbbM (d:=9) _ _ (by omega) hfine (by omega) (λz hz=>by have:=hex z hz; omega) (by have:=(gy _ hm).2; omega),cond_true,zy (by omega),key j hj])
  (λH K D=>by
   show (zoj a b i k F.length out c (zbz x.Fs (F.take F.length))).ev H K D=_;unfold zoj;have e1:decide ((k:Int)<Int.ofNat b.length)=true:=by simp [hk]
   have e2:decide ((F.length:Int)<Int.ofNat F.length)=false:=by simp
   simp only [Wy.ev_i,Wy.ev_k,zez,Bool.and_self,cond_true,cond_false,Int.toNat_natCast,hF,e1,e2,List.take_length]) n hn
 rw [show zer (λ_=>true) F.length 0=true from zdx.2 λ_ _ _=>rfl] at this
 simp only [List.take_zero,zFs] at this;exact this
theorem zbbg (a b:yB) (i:Nat) (hi:i<a.length) (hal:a.length<=512) (hbl:b.length<=512) (hx:VT (a.getD i default)) (hb:∀ t∈b,VT t) (out:yB) (ho:out.length<=i*512) (hs:Srs out) (hg:∀ t∈out,GT t) (n:Nat) (hn:b.length<n):
  zJr n a b i 0 out=(true,(a,b,(i:Int),zcp out (b.map (zi1 (a.getD i default))))):=by
 have:=zcV (W:=zJG) (z:=default) (l:=b) (λk (o:yB)=>(a,b,(),(i:Int),(k:Int),())) (λ_ o=>(o,())) (λy o=>.inl (zg1 (zi1 (a.getD i default) y) o)) (λo=>(a,b,(i:Int),o)) (λk o=>(o.length<=i*512+k/\Srs o)/\∀ t∈o,GT t)
  (λk o hk hI=>.inl ⟨_,rfl,⟨⟨by have:=zU3 (t:=zi1 (a.getD i default) (b.getD k default)) o; omega,zyF hI.1.2⟩,z5a (zOW hx (hb _ (zm hk))) hI.1.2 hI.2⟩,λH K D=>by
   show (zqt a b i k o).ev H K D=_;unfold zqt;have hy:=hb _ (zm hk);have hsz:=szTs_get' b k hk;simp only [Wy.ev_i,Wy.ev_k,Wy.ev_h,Wy.ev_bn,Wy.ev_d,tT,hk,hi,(z4f hx.1.1 hy.1.1).2];rw [z92 a b i k hk o _ _ hx hy _ (by omega)]
   simp only [cond_true];have e:(TO.mk (zyj (a.getD i default).Cf (b.getD k default).Cf) (zbz (a.getD i default).Fs (b.getD k default).Fs):Term)=zi1 (a.getD i default) (b.getD k default):=rfl;have hg:=zOW hx hy;rw [e,z6S (d:=9) o _ (by omega) (λz hz=>(hI.2 z hz).fine) (by omega) (λz hz=>(hI.2 z hz).1) hg.1]
   simp only [cond_true];rw [zy (by omega)]⟩)
  (λo hI H K D=>by
   show (zqt a b i b.length o).ev H K D=_;unfold zqt;simp only [Wy.ev_i,Wy.ev_k,tT,Nat.lt_irrefl]) n 0 out (by omega) (by omega) (show (out.length<=i*512+0/\Srs out)/\∀ t∈out,GT t from ⟨⟨Nat.le_trans ho (Nat.le_add_right _ _),hs⟩,hg⟩)
 rw [List.drop_zero,zcU] at this
 have e:∀ (l:yB) (o:yB),l.foldl (λs t=>zg1 (zi1 (a.getD i default) t) s) o=zcp o (l.map (zi1 (a.getD i default))):=λl=>by
  induction l with
  | nil=>intro o; rfl
  | cons y r ih=>intro o; rw [List.foldl_cons,ih]; rfl
 rw [e] at this;exact this
theorem z5I (o:yB) (b:yB) (x:Term):(zcp o (b.map (zi1 x))).length<=o.length+b.length:=by
 have:=zH4 (b.map (zi1 x)) o
 rwa [List.length_map] at this
theorem zbae (a b:yB) (ha:∀ t∈a,VT t) (hb:∀ t∈b,VT t) (hal:a.length<=512) (hbl:b.length<=512):zFO a b=(true,znl a b):=by
 unfold zFO zLn
 have:=zcV (W:=zJo) (z:=default) (l:=a) (λi (o:yB)=>(a,b,(),(i:Int),())) (λ_ o=>(o,())) (λx o=>.inl (zcp o (b.map (zi1 x)))) (λo=>o) (λi o=>(o.length<=i*512/\Srs o)/\∀ t∈o,GT t)
  (λi o hi hI=>.inl ⟨_,rfl,⟨⟨by have:=z5I o b (a.getD i default); omega,zNM _ _ hI.1.2⟩,zNC _ _ hI.1.2 hI.2 λt ht=>by
    obtain ⟨y,hy,rfl⟩:=List.mem_map.1 ht;exact zOW (ha _ (zm hi)) (hb y hy)⟩,λH K D=>by
   show (zqL a b i o).ev H K D=_;unfold zqL;have e1:decide ((i:Int)<Int.ofNat a.length)=true:=by simp [hi]
   simp only [Wy.ev_i,Wy.ev_k,Wy.ev_h,Wy.ev_bn,Wy.ev_d,e1,cond_true];rw [zbbg a b i hi hal hbl (ha _ (zm hi)) hb o hI.1.1 hI.1.2 hI.2 _ (by omega)]
   simp only [cond_true];rw [zy (by omega)]⟩)
  (λo hI H K D=>by
   show (zqL a b a.length o).ev H K D=_;unfold zqL;have e1:decide ((a.length:Int)<Int.ofNat a.length)=false:=by simp
   simp only [Wy.ev_i,Wy.ev_k,e1,cond_false]) ((a.length+b.length+Int.toNat (0:Int)+(0:Nat)+(1:Nat))+zgt a+zgt b+zgt []) 0 [] (by omega) (by omega) ⟨⟨by simp,.nil⟩,λt ht=>by cases ht⟩
 rw [List.drop_zero,zcU] at this
 have e:∀ (l:yB) (o:yB),l.foldl (λs x=>zcp s (b.map (zi1 x))) o=zcp o (zfb l b):=λl=>by
  induction l with
  | nil=>intro o; rfl
  | cons y r ih=>
   intro o;rw [List.foldl_cons,ih];show _=(zfb (y::r) b).foldl (λa t=>zg1 t a) o
   unfold zfb;rw [List.flatMap_cons,List.foldl_append]; rfl
 rw [e] at this;have this:zIL ((a.length+b.length+Int.toNat (0:Int)+(0:Nat)+(1:Nat))+zgt a+zgt b+zgt []) a b 0 []=(true,znl a b):=this;rw [Wy.fin_bn,this]; rfl
theorem z6L (a b:yB) (ha:∀ t∈a,GT t) (hb:∀ t∈b,GT t) (hs:Srs a) (hal:a.length<=512) (hbl:b.length<=512):zAN a b=(true,zcp a b):=by
 unfold zAN zWf
 have:=zcV (W:=zII) (z:=default) (l:=b) (λi (o:yB)=>(o,b,(i:Int),())) (λ_ o=>()) (λx o=>.inl (zg1 x o)) (λo=>o) (λi o=>(o.length<=512+i/\Srs o)/\∀ t∈o,GT t)
  (λi o hi hI=>.inl ⟨_,rfl,⟨⟨by have:=zU3 (t:=b.getD i default) o; omega,zyF hI.1.2⟩,z5a (hb _ (zm hi)) hI.1.2 hI.2⟩,λH K D=>by
   show (zyi o b i).ev H K D=_;unfold zyi;simp only [Wy.ev_i,Wy.ev_k,Wy.ev_h,Wy.ev_bn,Wy.ev_d,tT,hi];rw [z6S (d:=9) o _ (by omega) (λz hz=>(hI.2 z hz).fine) (by omega) (λz hz=>(hI.2 z hz).1) (hb _ (zm hi)).1,cond_true,zy (by omega)]⟩)
  (λo hI H K D=>by
   show (zyi o b b.length).ev H K D=_;unfold zyi;simp only [Wy.ev_i,Wy.ev_k,tT,Nat.lt_irrefl]) (a.length+b.length+Int.toNat (0:Int)+(1:Nat)) 0 a (by omega) (by omega) ⟨⟨by omega,hs⟩,ha⟩
 rw [List.drop_zero,zcU] at this;have this:zTS (a.length+b.length+Int.toNat (0:Int)+(1:Nat)) a b 0=(true,zcp a b):=this;rw [Wy.fin_bn,this]; rfl
def okA (a:yB):Prop:=(zn 12 a/\zM a<=4611686018427387904)/\zgC a/\a.length<=zX
def opR (ok:Bool) (r:yB×Int):yB×Int:=bif ok then r else ([],1)
def zo8 (a b:yB):yB×Int:=opR (zS a&&zS b) (zlR (zcp a b))
def zJl (a b:yB):yB×Int:=opR (zS a&&zS b) (zlR (znl a b))
def z7q (a b:yB):At:=⟨1,⟨0,0⟩,[a,b],0,[],0,⟨0,0,ByteArray.mk #[]⟩⟩
def z0d (a:yB):At:=⟨2,⟨0,0⟩,[a],0,[],0,⟨0,0,ByteArray.mk #[]⟩⟩
def z6Y (a:yB):At:=⟨3,⟨0,0⟩,[a],0,[],0,⟨0,0,ByteArray.mk #[]⟩⟩
def zPs (a b:yB):yB×Int:=opR (zS a&&zS b) (if b=[] then (a,0) else if a=[]\/a=b then ([],0) else zlR (zcF (z7q a b)))
def zPh (a:yB):yB×Int:=opR (zS a) (if a=[]\/isU a=true then (a,0) else if isC a=true then ([⟨1,[]⟩],0) else zlR (zcF (z0d a)))
def zP9 (a:yB):yB×Int:=opR (zS a) (if a=[] then ([⟨1,[]⟩],0) else if zwX a=true then ([],0) else zlR (zcF (z6Y a)))
theorem okA.valid {a:yB} (h:okA a):zcb a=(true,zS a):=z0Z h.1.1 (by omega) h.1.2
theorem okA.rvalid {a:yB} (h:okA a):zjp a=(true,zS a):=zYe h.1.1 (by omega) h.1.2
theorem z9o {a b:yB} (ha:okA a) (hb:okA b):zpU a b=(true,zo8 a b)/\z0T a b=(true,zo8 a b):=by
 unfold zpU zH8 z0T zWm zo8;simp only [Wy.fin_bn,Wy.fin_i,Wy.fin_k,ha.valid,hb.valid,ha.rvalid,hb.rvalid,cond_true];cases va:zS a with
 | false=>first | exact ⟨trivial,trivial⟩ | exact ⟨rfl,rfl⟩ | exact ⟨trivial,rfl⟩ | exact ⟨rfl,trivial⟩
 | true=>
  cases vb:zS b with
  | false=>first | exact ⟨trivial,trivial⟩ | exact ⟨rfl,rfl⟩ | exact ⟨trivial,rfl⟩ | exact ⟨rfl,trivial⟩
  | true=>
   obtain ⟨sa,la,ta⟩:=zs9 va ha.2.1;obtain ⟨sb,lb,tb⟩:=zs9 vb hb.2.1;have ga:∀ t∈a,GT t:=λt ht=>(ta t ht).1
   have gb:∀ t∈b,GT t:=λt ht=>(tb t ht).1
   have hc:=zbaa [a,b] (by simp) (λl hl=>by
    simp only [qd,List.not_mem_nil,or_false] at hl;rcases hl with rfl | rfl <;>omega)
   have e:[a,b].flatten=a++b:=by simp
   have hcol:=zYU (a++b) (by simp; omega) λt ht=>by
    rcases List.mem_append.1 ht with ht | ht
    ·exact ga t ht
    ·exact gb t ht
   rw [e] at hc;rw [zbb7 a b sa] at hcol;have hsl:(zcp a b).length<=1000000:=by have:=zH4 b a; omega
   obtain ⟨f1,f2⟩:=z3b hsl (zNC b a sa ga gb);simp only [Bool.not_true,cond_false,Bool.and_self,hc,hcol,zyv f1 (by omega:10<=100) f2,z6L a b ga gb sa la lb,zOG f1 (by omega:10<=100) f2,cond_true]
   first | exact ⟨trivial,trivial⟩ | exact ⟨rfl,rfl⟩ | exact ⟨trivial,rfl⟩ | exact ⟨rfl,trivial⟩
theorem zbdb {a b:yB} (ha:okA a) (hb:okA b):ztQ a b=(true,zJl a b)/\z0W a b=(true,zJl a b):=by
 unfold ztQ zJY z0W zWF zJl;simp only [Wy.fin_bn,Wy.fin_i,Wy.fin_k,ha.valid,hb.valid,ha.rvalid,hb.rvalid,cond_true];cases va:zS a with
 | false=>first | exact ⟨trivial,trivial⟩ | exact ⟨rfl,rfl⟩ | exact ⟨trivial,rfl⟩ | exact ⟨rfl,trivial⟩
 | true=>
  cases vb:zS b with
  | false=>first | exact ⟨trivial,trivial⟩ | exact ⟨rfl,rfl⟩ | exact ⟨trivial,rfl⟩ | exact ⟨rfl,trivial⟩
  | true=>
   obtain ⟨sa,la,ta⟩:=zs9 va ha.2.1;obtain ⟨sb,lb,tb⟩:=zs9 vb hb.2.1;have hm:=zber a b ta tb la lb (b.length+a.length+(Int.ofNat a.length).toNat +Int.toNat (0:Int)+(0:Nat)+(1:Nat)) (by omega)
   have hm:zzb (b.length+a.length+(Int.ofNat a.length).toNat +Int.toNat (0:Int)+(0:Nat)+(1:Nat)) b a (Int.ofNat a.length) 0 []=_:=hm;have hpl:(zfb a b).length<=1000000:=by rw [zUK]; have:=Nat.mul_le_mul la lb; omega
   have hcol:=zYU (zfb a b) hpl (zWQ ta tb);have hsl:(znl a b).length<=1000000:=by have:=zH4 (zfb a b) []; simp at this; exact Nat.le_trans this hpl
   obtain ⟨f1,f2⟩:=z3b hsl (zNC (zfb a b) [] .nil (λt ht=>by cases ht) (zWQ ta tb))
   have f1:zn 10 (znl a b):=f1;have f2:zM (znl a b)<=4611686018427387904:=f2;have hcol:zhR (zfb a b)=(true,znl a b):=hcol;simp only [Bool.not_true,cond_false,Bool.and_self,hm,hcol,zyv f1 (by omega:10<=100) f2,zbae a b ta tb la lb,zOG f1 (by omega:10<=100) f2,cond_true]
   first | exact ⟨trivial,trivial⟩ | exact ⟨rfl,rfl⟩ | exact ⟨trivial,rfl⟩ | exact ⟨rfl,trivial⟩
theorem zQC {l:yA} {k:Int} (hl:l.length<=2) (h:∀ a∈l,zS a=true):zn 10 (zcF ⟨k,⟨0,0⟩,l,0,[],0,⟨0,0,ByteArray.mk #[]⟩⟩)/\zM (zcF ⟨k,⟨0,0⟩,l,0,[],0,⟨0,0,ByteArray.mk #[]⟩⟩)<=4611686018427387904:=by
 constructor
 ·exact zSD ⟨⟨by simp only; omega,by simp,by show (ByteArray.mk #[]).size<=_; decide⟩,λa ha=>(zeU (h a ha)).1,λw hw=>(by cases hw)⟩
 ·rw [zXx,zhj]
  have hb:∀ l:yA,(∀ a∈l,zS a=true)->zeY l<=l.length*4096:=λl=>by
   induction l with
   | nil=>intro _; rw [zgK]; simp
   | cons a r ih=>
    intro h;have h1:=(zeU (h a (by simp))).2.1
    have h2:=ih λb hb=>h b (by simp [hb])
    rw [zeH,qf,Nat.add_mul]; omega
  have:=hb l h;show 2+(zeY l+zda [])<=_;rw [zfs];have:=Nat.mul_le_mul hl (Nat.le_refl 4096);omega
theorem zZ7 (a:yB):(Int.ofNat a.length==(0:Int))=decide (a=[]):=by
 rw [show (Int.ofNat a.length==(0:Int))=(a.length==0) from zr6 _ 0,zXa]
 congr 1;rw [List.length_eq_zero_iff]
theorem z93 {a b:yB} (ha:okA a) (hb:okA b):zqd a b=(true,zPs a b)/\zWs a b=(true,zPs a b):=by
 unfold zqd zE4 zWs zRj zPs;simp only [Wy.fin_bn,Wy.fin_i,Wy.fin_k,ha.valid,hb.valid,ha.rvalid,hb.rvalid,cond_true];cases va:zS a with
 | false=>first | exact ⟨trivial,trivial⟩ | exact ⟨rfl,rfl⟩ | exact ⟨trivial,rfl⟩ | exact ⟨rfl,trivial⟩
 | true=>
  cases vb:zS b with
  | false=>first | exact ⟨trivial,trivial⟩ | exact ⟨rfl,rfl⟩ | exact ⟨trivial,rfl⟩ | exact ⟨rfl,trivial⟩
  | true=>
   obtain ⟨f1,f2⟩:=zQC (l:=[a,b]) (k:=1) (by simp) (λx hx=>by
    simp only [qd,List.not_mem_nil,or_false] at hx;rcases hx with rfl | rfl
    ·exact va
    ·exact vb)
   simp only [Bool.not_true,cond_false,Bool.and_self,zZ7,zE1 ha.1.1 (by omega:12<=100),zwG ha.1.1 (by omega:12<=100),zGd ha.1.1 (by omega:12<=100),zFp,zNb,zyv f1 (by omega:10<=100) f2,zOG f1 (by omega:10<=100) f2,cond_true,opR]
   by_cases hb0:b=[]
   ·simp only [hb0,decide_true,cond_true,if_true]; exact ⟨trivial,trivial⟩
   ·by_cases ha0:a=[]
    ·simp only [hb0,ha0,decide_true,decide_false,cond_true,cond_false,if_true,if_false,true_or]; exact ⟨trivial,trivial⟩
    ·by_cases hab:a=b
     ·simp only [hb0,ha0,hab,decide_true,decide_false,cond_true,cond_false,if_true,if_false,or_true]; exact ⟨trivial,trivial⟩
     ·simp only [hb0,ha0,hab,decide_false,cond_false,if_false,or_self]; first | exact ⟨trivial,trivial⟩ | exact ⟨rfl,rfl⟩ | exact ⟨trivial,rfl⟩ | exact ⟨rfl,trivial⟩
theorem zbax {a:yB} (ha:okA a):zqI a=(true,zPh a)/\zWJ a=(true,zPh a):=by
 unfold zqI zE7 zWJ zQV zPh;simp only [Wy.fin_bn,Wy.fin_i,Wy.fin_k,ha.valid,ha.rvalid,cond_true];cases va:zS a with
 | false=>first | exact ⟨trivial,trivial⟩ | exact ⟨rfl,rfl⟩ | exact ⟨trivial,rfl⟩ | exact ⟨rfl,trivial⟩
 | true=>
  obtain ⟨f1,f2⟩:=zQC (l:=[a]) (k:=2) (by simp) (λx hx=>by rw [qh] at hx; subst hx; exact va)
  have hla:a.length<=1000000000:=by have:=(zeU va).2.2; omega
  have hbu:isB a=isU a:=zTD va;simp only [Bool.not_true,cond_false,zZ7,zE1 ha.1.1 (by omega:12<=100),z1r,zQ7,zLt,zzc a hla,zFp,zNb,zyv f1 (by omega:10<=100) f2,zOG f1 (by omega:10<=100) f2,cond_true,opR,hbu]
  rw [show zlR (zcF ⟨2,⟨0,0⟩,[a],0,[],0,⟨0,0,ByteArray.mk #[]⟩⟩)=zlR (zcF (z0d a)) from rfl]
  clear f1 f2;generalize zlR (zcF (z0d a))=R;by_cases h0:a=[]
  ·simp only [h0,decide_true,cond_true,if_true,true_or]; exact ⟨trivial,trivial⟩
  ·cases hu:isU a with
   | true=>simp only [h0,decide_false,cond_false,cond_true,if_true,or_true]; exact ⟨trivial,trivial⟩
   | false=>
    simp only [h0,decide_false,cond_false,if_false,or_self,Bool.false_eq_true]
    match a,h0 with
    | [t],_=>
     have e1:zwX [t]=(t.Fs.length==0):=by simp [zwX]
     have e2:isC [t]=(t.Fs.length==0):=rfl;rw [e1,e2];cases (t.Fs.length==0) with
     | true=>simp only [cond_true,if_true]; first | exact ⟨trivial,trivial⟩ | exact ⟨rfl,rfl⟩ | exact ⟨trivial,rfl⟩ | exact ⟨rfl,trivial⟩
     | false=>simp only [cond_false,cond_true,Bool.false_eq_true,if_false]; first | exact ⟨trivial,trivial⟩ | exact ⟨rfl,rfl⟩ | exact ⟨trivial,rfl⟩ | exact ⟨rfl,trivial⟩
    | t::s::r,_=>
     have e2:isC (t::s::r)=false:=rfl;simp only [zMg,e2,cond_false,cond_true,Bool.false_eq_true,if_false]
     first | exact ⟨trivial,trivial⟩ | exact ⟨rfl,rfl⟩ | exact ⟨trivial,rfl⟩ | exact ⟨rfl,trivial⟩
theorem z8l {a:yB} (ha:okA a):zoB a=(true,zP9 a)/\zUv a=(true,zP9 a):=by
 unfold zoB zCS zUv zOj zP9;simp only [Wy.fin_bn,Wy.fin_i,Wy.fin_k,ha.valid,ha.rvalid,cond_true];cases va:zS a with
 | false=>first | exact ⟨trivial,trivial⟩ | exact ⟨rfl,rfl⟩ | exact ⟨trivial,rfl⟩ | exact ⟨rfl,trivial⟩
 | true=>
  obtain ⟨f1,f2⟩:=zQC (l:=[a]) (k:=3) (by simp) (λx hx=>by rw [qh] at hx; subst hx; exact va)
  have hla:a.length<=1000000000:=by have:=(zeU va).2.2; omega
  simp only [Bool.not_true,cond_false,zZ7,zOI a hla,zzc a hla,zFp,zNb,zyv f1 (by omega:10<=100) f2,zOG f1 (by omega:10<=100) f2,cond_true,opR]
  by_cases h0:a=[]
  ·simp only [h0,decide_true,cond_true,if_true]; first | exact ⟨trivial,trivial⟩ | exact ⟨rfl,rfl⟩ | exact ⟨trivial,rfl⟩ | exact ⟨rfl,trivial⟩
  ·cases hu:zwX a with
   | true=>simp only [h0,decide_false,cond_false,cond_true,if_true,if_false]; exact ⟨trivial,trivial⟩
   | false=>simp only [h0,decide_false,cond_false,if_false,Bool.false_eq_true]; first | exact ⟨trivial,trivial⟩ | exact ⟨rfl,rfl⟩ | exact ⟨trivial,rfl⟩ | exact ⟨rfl,trivial⟩
theorem zTu {n:Int} (h:rng n):wf3 n:=by
 show (Lit.int .i64 n).wf=true;have:IntKind.i64.min<=n/\n<=IntKind.i64.max:=⟨h.1,h.2⟩
 simpa [Lit.wf] using this
theorem zS1 {t:Term} (hc:rng t.Cf) (hf:∀ f∈t.Fs,zgz f.At/\rng f.Exp) (hl:t.Fs.length<=1000000):zzr t:=by
 obtain ⟨c,fs⟩:=t;unfold zzr;refine ⟨zTu hc,zIY fs λf h=> ?_,by have:zX=140737488351232:=rfl; simp only at hl; omega⟩
 obtain ⟨x,e⟩:=f;unfold zvE;exact ⟨(hf _ h).1,zTu (hf _ h).2⟩
def okR (r:yB×Int):Prop:=okA r.1/\(r.2=0\/r.1=[])
theorem zk5:okA []:=⟨⟨zbak 11,by rw [zvC]; omega⟩,by unfold zgC; trivial,by simp⟩
theorem zH5 {a:yB} (h:okA a):okR (zlR a):=by
 unfold zlR;cases zfj a with
 | true=>exact ⟨h,.inl rfl⟩
 | false=>exact ⟨zk5,.inr rfl⟩
theorem zUz {ok:Bool} {r:yB×Int} (h:ok=true->okR r):okR (opR ok r):=by
 unfold opR;cases ok with
 | true=>exact h rfl
 | false=>exact ⟨zk5,.inr rfl⟩
theorem z0r {l:yB} (hl:l.length<=1000000) (h:∀ t∈l,GT t):okA l:=by
 obtain ⟨h1,h2⟩:=z3b hl h;refine ⟨⟨h1.mono (by omega),h2⟩,zDn l λt ht=> ?_,by have:zX=140737488351232:=rfl; omega⟩
 have hg:=h t ht;exact zS1 ⟨by have:=hg.1.1; omega,by have:=hg.1.2; omega⟩ (λf hf=>⟨(hg.2.2 f hf).1.2.1,(hg.2.2 f hf).gF.2.2⟩) (by have:=hg.2.1; omega)
theorem z0w {a b:yB} (ha:okA a) (hb:okA b):okR (zo8 a b):=zUz λhv=>by
 rw [qc] at hv;obtain ⟨sa,la,ta⟩:=zs9 hv.1 ha.2.1;obtain ⟨sb,lb,tb⟩:=zs9 hv.2 hb.2.1;exact zH5 (z0r (by have:=zH4 b a; omega) (zNC b a sa (λt ht=>(ta t ht).1) λt ht=>(tb t ht).1))
theorem z6E {a b:yB} (ha:okA a) (hb:okA b):okR (zJl a b):=zUz λhv=>by
 rw [qc] at hv;obtain ⟨sa,la,ta⟩:=zs9 hv.1 ha.2.1;obtain ⟨sb,lb,tb⟩:=zs9 hv.2 hb.2.1;have hpl:(zfb a b).length<=1000000:=by rw [zUK]; have:=Nat.mul_le_mul la lb; omega
 exact zH5 (z0r (by have:=zH4 (zfb a b) []; simp at this; exact Nat.le_trans this hpl) (zNC (zfb a b) [] .nil (λt ht=>by cases ht) (zWQ ta tb)))
theorem z42 {x:At} (hf:zc7 (zn 9) x) (hs:zM (zcF x)<=4611686018427387904) (hw:zgz x):okA (zcF x):=by
 refine ⟨⟨(zSD hf).mono (by omega),hs⟩,zDn _ λt ht=> ?_,by simp [zcF,zX]⟩
 simp only [zcF,qh] at ht;subst ht;refine zS1 ⟨by simp,by simp⟩ (λf hf=> ?_) (by simp)
 simp only [qh] at hf;subst hf;exact ⟨hw,⟨by simp,by simp⟩⟩
theorem zTr {n:Int} (h: -1000<=n/\n<=1000):rng n:=⟨by omega,by omega⟩
theorem zpK:wf3 0:=zTu (zTr (by omega))
theorem zUR {l:yA} {k:Int} (hk:0<=k/\k<=4) (hl:l.length<=2) (h:∀ a∈l,zS a=true) (hw:∀ a∈l,okA a):okA (zcF ⟨k,⟨0,0⟩,l,0,[],0,⟨0,0,ByteArray.mk #[]⟩⟩):=by
 refine z42 ⟨⟨by simp only; omega,by simp,by show (ByteArray.mk #[]).size<=_; decide⟩,λa ha=>(zeU (h a ha)).1,λw hw=>(by cases hw)⟩ (zQC hl h).2 ?_
 unfold zgz;have hr:zX=140737488351232:=rfl;refine ⟨zTu (zTr (by omega)),⟨zpK,zpK⟩,⟨zUb l λa ha=>⟨(hw a ha).2.1,(hw a ha).2.2⟩,by omega⟩,zpK,⟨by unfold zr2; trivial,by simp⟩,zpK,⟨zpK,zpK, ?_⟩⟩
 show (ByteArray.mk #[]).size<=zX;rw [hr]; decide
theorem z6R {a b:yB} (ha:okA a) (hb:okA b):okR (zPs a b):=zUz λhv=>by
 rw [qc] at hv;split
 ·exact ⟨ha,.inl rfl⟩
 ·split
  ·exact ⟨zk5,.inl rfl⟩
  ·refine zH5 (zUR (by omega) (by simp) (λx hx=> ?_) λx hx=> ?_)
   ·simp only [qd,List.not_mem_nil,or_false] at hx;rcases hx with rfl | rfl
    ·exact hv.1
    ·exact hv.2
   ·simp only [qd,List.not_mem_nil,or_false] at hx;rcases hx with rfl | rfl
    ·exact ha
    ·exact hb
theorem zU1 (c:Int) (hc:1<=c/\c<=1152921504606846976):okA [⟨c,[]⟩]:=z0r (by simp) λt ht=>by
 rw [qh] at ht; subst ht;exact ⟨hc,by simp,λf hf=>by cases hf⟩
theorem z54 {a:yB} (ha:okA a):okR (zPh a):=zUz λhv=>by
 split
 ·exact ⟨ha,.inl rfl⟩
 ·split
  ·exact ⟨zU1 1 (by omega),.inl rfl⟩
  ·exact zH5 (zUR (by omega) (by simp) (λx hx=>by rw [qh] at hx; subst hx; exact hv) λx hx=>by rw [qh] at hx; subst hx; exact ha)
theorem z6H {a:yB} (ha:okA a):okR (zP9 a):=zUz λhv=>by
 split
 ·exact ⟨zU1 1 (by omega),.inl rfl⟩
 ·split
  ·exact ⟨zk5,.inl rfl⟩
  ·exact zH5 (zUR (by omega) (by simp) (λx hx=>by rw [qh] at hx; subst hx; exact hv) λx hx=>by rw [qh] at hx; subst hx; exact ha)
def zz5 (n:Int):yB:=if n<1 then [] else [⟨if 1152921504606846976<n then 1152921504606846976 else n,[]⟩]
def zvb (id:RowID):yB:=bif zyz id then zcF ⟨0,id,[],0,[],0,⟨0,0,ByteArray.mk #[]⟩⟩ else []
theorem z9s (n:Int):zqu n=(true,zz5 n)/\zWh n=(true,zz5 n):=by
 unfold zqu zEm zWh zQ9 zz5;by_cases h:n<1
 ·simp only [Wy.fin_i,Wy.fin_k,h,decide_true,cond_true,if_true]; exact ⟨trivial,trivial⟩
 ·simp only [Wy.fin_i,Wy.fin_k,h,decide_false,cond_false,if_false]; exact ⟨trivial,trivial⟩
theorem zbcD (id:RowID):zt9 id=(true,zvb id)/\zFf id=(true,zvb id):=by
 unfold zt9 zIc zFf zWB zvb zyz;simp only [Wy.fin_i,Wy.fin_bn,Wy.fin_k,zBq,zFp,zNb,cond_true];unfold zyz
 have e1:decide (id.Table<1)= !decide (id.Table≥1):=by
  by_cases h:id.Table<1
  ·have:¬ id.Table≥1:=by omega
   simp only [h,this,decide_true,decide_false,Bool.not_false]
  ·have:id.Table≥1:=by omega
   simp only [h,this,decide_true,decide_false,Bool.not_true]
 have e2:decide (id.Seq<1)= !decide (id.Seq≥1):=by
  by_cases h:id.Seq<1
  ·have:¬ id.Seq≥1:=by omega
   simp only [h,this,decide_true,decide_false,Bool.not_false]
  ·have:id.Seq≥1:=by omega
   simp only [h,this,decide_true,decide_false,Bool.not_true]
 rw [e1,e2];cases decide (id.Table≥1) <;>cases decide (id.Seq≥1) <;>exact ⟨rfl,rfl⟩
theorem z8L (n:Int):okA (zz5 n):=by
 unfold zz5;split
 ·exact zk5
 ·refine zU1 _ ?_;split <;>omega
theorem zbdu {id:RowID} (h:zWL id):okA (zvb id):=by
 unfold zvb;cases hr:zyz id with
 | false=>exact zk5
 | true=>
  refine z42 ⟨⟨by simp,by simp,by show (ByteArray.mk #[]).size<=_; decide⟩,λa ha=>(by cases ha),λw hw=>(by cases hw)⟩ (by rw [zXx,zhj,zgK,zfs]; omega) ?_
  unfold zgz;refine ⟨zpK,h,⟨by unfold zv5; trivial,by simp⟩,zpK,⟨by unfold zr2; trivial,by simp⟩,zpK,⟨zpK,zpK, ?_⟩⟩
  show (ByteArray.mk #[]).size<=zX;have hr:zX=140737488351232:=rfl;rw [hr]; decide
theorem zbbu {a:yB} {n:Nat} (hn:n<=1000) (h:zn 12 a/\zel a<=n) (hw:z3C a):okA a:=⟨⟨h.1,by have:=zHv a; omega⟩,hw.1,hw.2⟩
theorem z6I {α:Type} {R:α->α->Prop} (ir:∀ x,¬ R x x) (asy:∀ x y,R x y->¬ R y x):∀ (a b:List α),a.Pairwise R->b.Pairwise R->(∀ x,x∈a↔x∈b)->a=b
 | [],[],_,_,_=>rfl
 | [],y::b,_,_,h=>by have:=(h y).2 (by simp); cases this
 | x::a,[],_,_,h=>by have:=(h x).1 (by simp); cases this
 | x::a,y::b,ha,hb,h=>by
  have ca:=qi.1 ha;have cb:=qi.1 hb
  have e:x=y:=by
   rcases qd.1 ((h x).1 (by simp)) with e | hx
   ·exact e
   ·rcases qd.1 ((h y).2 (by simp)) with e | hy
    ·exact e.symm
    ·exact absurd (cb.1 x hx) (asy _ _ (ca.1 y hy))
  subst e;rw [z6I ir asy a b ca.2 cb.2 λz=>⟨λhz=> ?_,λhz=> ?_⟩]
  ·rcases qd.1 ((h z).1 (by simp [hz])) with rfl | h1
   ·exact absurd (ca.1 z hz) (ir z)
   ·exact h1
  ·rcases qd.1 ((h z).2 (by simp [hz])) with rfl | h1
   ·exact absurd (cb.1 z hz) (ir z)
   ·exact h1
def MF (l:yC):Prop:=Srf l/\∀ f∈l,eOK f/\1<=f.Exp
theorem MF.tail {f:Fc} {l:yC} (h:MF (f::l)):MF l:=⟨(qi.1 h.1).2,λg hg=>h.2 g (by simp [hg])⟩
theorem MF.nil:MF []:=⟨List.Pairwise.nil,λf hf=>by cases hf⟩
theorem cF_self' {x y:Fc} (h:x.At=y.At):cF x y=0:=by unfold cF; rw [h]; exact zAu _
theorem MF.ne {f:Fc} {l:yC} (h:MF (f::l)):∀ g∈l,g.At≠f.At:=λg hg e=>by
 have:=(qi.1 h.1).1 g hg;rw [cF_self' e.symm] at this; omega
theorem zbaD {a b:yC}:Srf a->Srf b->Srf (zbz a b):=by
 induction a,b using zbz.induct with
 | case1 b=>intro _ hb; rw [zbz]; exact hb
 | case2 x a=>intro ha _; rw [zbz]; exact ha
 | case3 x a y b h ih=>
  intro ha hb;have ca:=qi.1 ha;rw [zbz,if_pos h];refine qi.2 ⟨λz hz=> ?_,ih ca.2 hb⟩
  obtain ⟨w,hw,e⟩:=zs5 hz;have:cF x z=cF x w:=by unfold cF; rw [e]
  rw [this];rcases hw with hw | hw
  ·exact ca.1 w hw
  ·rcases qd.1 hw with rfl | hw
   ·exact h
   ·exact zDg h ((qi.1 hb).1 w hw)
 | case4 x a y b h h2 ih=>
  intro ha hb;have cb:=qi.1 hb;rw [zbz,if_neg h,if_pos h2];have h3:cF y x<0:=by rw [zbbn x y]; omega
  refine qi.2 ⟨λz hz=> ?_,ih ha cb.2⟩
  obtain ⟨w,hw,e⟩:=zs5 hz;have:cF y z=cF y w:=by unfold cF; rw [e]
  rw [this];rcases hw with hw | hw
  ·rcases qd.1 hw with rfl | hw
   ·exact h3
   ·exact zDg h3 ((qi.1 ha).1 w hw)
  ·exact cb.1 w hw
 | case5 x a y b h h2 ih=>
  intro ha hb;have ca:=qi.1 ha;have cb:=qi.1 hb;have h0:x.At=y.At:=z6U (by omega)
  rw [zbz,if_neg h,if_neg h2];have hA:(if x.At.Kind=3\/x.At.Kind=4 then x else ⟨x.At,x.Exp+y.Exp⟩:Fc).At=x.At:=by split <;>rfl
  refine qi.2 ⟨λz hz=> ?_,ih ca.2 cb.2⟩
  obtain ⟨w,hw,e⟩:=zs5 hz;have:cF (if x.At.Kind=3\/x.At.Kind=4 then x else ⟨x.At,x.Exp+y.Exp⟩:Fc) z=cF x w:=by unfold cF; rw [e,hA]
  rw [this];rcases hw with hw | hw
  ·exact ca.1 w hw
  ·have:cF x w=cF y w:=by unfold cF; rw [h0]
   rw [this]; exact cb.1 w hw
theorem z9N {a b:yC}:(∀ f∈a,eOK f/\1<=f.Exp)->(∀ f∈b,eOK f/\1<=f.Exp)->∀ f∈zbz a b,eOK f/\1<=f.Exp:=by
 induction a,b using zbz.induct with
 | case1 b=>intro _ hb; rw [zbz]; exact hb
 | case2 x a=>intro ha _; rw [zbz]; exact ha
 | case3 x a y b h ih=>
  intro ha hb f hf;rw [zbz,if_pos h] at hf;rcases qd.1 hf with rfl | hf
  ·exact ha _ (by simp)
  ·exact ih (λg hg=>ha g (by simp [hg])) hb f hf
 | case4 x a y b h h2 ih=>
  intro ha hb f hf;rw [zbz,if_neg h,if_pos h2] at hf;rcases qd.1 hf with rfl | hf
  ·exact hb _ (by simp)
  ·exact ih ha (λg hg=>hb g (by simp [hg])) f hf
 | case5 x a y b h h2 ih=>
  intro ha hb f hf;rw [zbz,if_neg h,if_neg h2] at hf;rcases qd.1 hf with rfl | hf
  ·have h1:=ha x (by simp)
   have h2:=hb y (by simp)
   split
   ·exact h1
   ·rename_i hk;exact ⟨⟨h1.1.1,λh=>absurd h hk⟩,by show 1<=x.Exp+y.Exp; omega⟩
  ·exact ih (λg hg=>ha g (by simp [hg])) (λg hg=>hb g (by simp [hg])) f hf
theorem zbb1 {a b:yC} (ha:MF a) (hb:MF b):MF (zbz a b):=⟨zbaD ha.1 hb.1,z9N ha.2 hb.2⟩
def EqS (n m:Nat):Prop:=n=m\/(1152921504606846976<=n/\1152921504606846976<=m)
theorem EqS.refl (n:Nat):EqS n n:=.inl rfl
theorem EqS.symm {n m:Nat} (h:EqS n m):EqS m n:=by unfold EqS at *; omega
theorem EqS.trans {n m k:Nat} (h:EqS n m) (h':EqS m k):EqS n k:=by unfold EqS at *; omega
theorem EqS.add {n m n' m':Nat} (h:EqS n n') (h':EqS m m'):EqS (n+m) (n'+m'):=by unfold EqS at *; omega
theorem EqS.mul1 {n n':Nat} (k:Nat) (h:EqS n n'):EqS (n*k) (n'*k):=by
 rcases h with rfl | ⟨h1,h2⟩
 ·exact .refl _
 ·rcases Nat.eq_zero_or_pos k with rfl | hk
  ·exact .inl (by simp)
  ·exact .inr ⟨Nat.le_trans h1 (Nat.le_mul_of_pos_right n hk),Nat.le_trans h2 (Nat.le_mul_of_pos_right n' hk)⟩
theorem EqS.mul {n m n' m':Nat} (h:EqS n n') (h':EqS m m'):EqS (n*m) (n'*m'):=by
 refine (h.mul1 m).trans ?_;rw [Nat.mul_comm n' m,Nat.mul_comm n' m'];exact h'.mul1 n'
def evA (φ:yC->Nat):yB->Nat
 | []=>0
 | t::r=>t.Cf.toNat *φ t.Fs+evA φ r
theorem z9H {a b:Int} (ha:1<=a) (hb:1<=b):EqS (zsT a b).toNat (a.toNat +b.toNat):=by
 unfold zsT EqS;split <;>omega
theorem z89 (φ:yC->Nat) {t:Term} (ht:cOK t):∀ {l:yB},(∀ x∈l,cOK x)->EqS (evA φ (zg1 t l)) (t.Cf.toNat *φ t.Fs+evA φ l)
 | [],_=>.inl rfl
 | x::r,h=>by
  unfold zg1;by_cases h1:cT x t<0
  ·rw [if_pos h1,evA,evA];refine ((EqS.refl _).add (z89 φ ht λy hy=>h y (by simp [hy]))).trans (.inl ?_)
   omega
  ·rw [if_neg h1];by_cases h2:cT x t=0
   ·rw [if_pos h2,evA,evA,zOv h2];show EqS ((zsT x.Cf t.Cf).toNat *φ t.Fs+evA φ r) (t.Cf.toNat *φ t.Fs+(x.Cf.toNat *φ t.Fs+evA φ r));refine ((z9H (h x (by simp)).1 ht.1).mul1 _ |>.add (.refl _)).trans (.inl ?_)
    rw [Nat.add_mul]; omega
   ·rw [if_neg h2]; exact .refl _
theorem zIz (φ:yC->Nat):∀ (b:yB) {a:yB},(∀ x∈a,cOK x)->(∀ x∈b,cOK x)->EqS (evA φ (zcp a b)) (evA φ a+evA φ b)
 | [],a,_,_=>.inl rfl
 | t::r,a,ha,hb=>by
  refine (zIz φ r (z2O (hb t (by simp)) ha) λx hx=>hb x (by simp [hx])).trans ?_
  rw [evA];refine ((z89 φ (hb t (by simp)) ha).add (.refl _)).trans (.inl ?_)
  omega
def zQb (m n:yC):Nat:=if n=m then 1 else 0
theorem z3M {m:yC}:∀ {l:yB},(∀ t∈l,t.Fs≠m)->evA (zQb m) l=0
 | [],_=>rfl
 | t::r,h=>by rw [evA,z3M λx hx=>h x (by simp [hx]),zQb,if_neg (h t (by simp)),Nat.mul_zero]
theorem zZ0 {t:Term}:∀ {l:yB},Srs l->t∈l->evA (zQb t.Fs) l=t.Cf.toNat
 | [],_,h=>by cases h
 | x::r,hs,h=>by
  have hc:=qi.1 hs;rw [evA];rcases qd.1 h with rfl | h
  ·rw [z3M λy hy e=>by
    have:=hc.1 y hy;rw [zys e.symm] at this; omega]
   simp [zQb]
  ·rw [zZ0 hc.2 h,zQb,if_neg λe=>by
    have:=hc.1 t h;rw [zys e] at this; omega]
   omega
theorem z6n {m:yC}:∀ {l:yB},evA (zQb m) l≠0->∃ t∈l,t.Fs=m
 | [],h=>absurd rfl h
 | x::r,h=>by
  by_cases e:x.Fs=m
  ·exact ⟨x,by simp,e⟩
  ·rw [evA,zQb,if_neg e,Nat.mul_zero,Nat.zero_add] at h;obtain ⟨t,ht,e⟩:=z6n (l:=r) h;exact ⟨t,by simp [ht],e⟩
theorem z6h {a b:yB} (ha:Srs a) (hb:Srs b) (ca:∀ t∈a,cOK t) (cb:∀ t∈b,cOK t) (h:∀ φ,EqS (evA φ a) (evA φ b)):a=b:=by
 refine z6I (R:=λx y=>cT x y<0) (λx=>by rw [zys rfl]; omega) (λx y h=>by rw [zAQ x y]; omega) a b ha hb λt=> ?_
 have key:∀ {a b:yB},Srs a->Srs b->(∀ t∈a,cOK t)->(∀ t∈b,cOK t)->(∀ φ,EqS (evA φ a) (evA φ b))->t∈a->t∈b:=λ{a b} ha hb ca cb h ht=>by
  have e:=h (zQb t.Fs);rw [zZ0 ha ht] at e;have c1:=ca t ht;unfold cOK at c1;have hne:evA (zQb t.Fs) b≠0:=by unfold EqS at e; omega
  obtain ⟨s,hs,e2⟩:=z6n hne;rw [<- e2,zZ0 hb hs] at e;have c2:=cb s hs;unfold cOK at c2;have:t=s:=zZO (by unfold EqS at e; omega) e2.symm
  rw [this]; exact hs
 exact ⟨key ha hb ca cb h,key hb ha cb ca fun φ=>(h φ).symm⟩
def PA (a:yB):Prop:=Srs a/\∀ t∈a,cOK t/\MF t.Fs
theorem PA.c {a:yB} (h:PA a):∀ t∈a,cOK t:=λt ht=>(h.2 t ht).1
theorem zm0 {a b:yB} (ha:PA a) (hb:PA b):PA (zcp a b):=⟨zNM _ _ ha.1,λt ht=>⟨z67 b ha.c hb.c t ht,by
 obtain ⟨x,hx,e⟩:=zH7 b a ha.1 ht;rw [e];rcases hx with hx | hx
 ·exact (ha.2 x hx).2
 ·exact (hb.2 x hx).2⟩⟩
theorem PA.nil:PA []:=⟨List.Pairwise.nil,λt ht=>by cases ht⟩
theorem zban {a b:yB} (ha:PA a) (hb:PA b):zcp a b=zcp b a:=by
 refine z6h (zm0 ha hb).1 (zm0 hb ha).1 (zm0 ha hb).c (zm0 hb ha).c fun φ=> ?_
 refine (zIz φ b ha.c hb.c).trans (.trans ?_ (zIz φ a hb.c ha.c).symm);exact .inl (Nat.add_comm _ _)
theorem z1G {a b c:yB} (ha:PA a) (hb:PA b) (hc:PA c):zcp (zcp a b) c=zcp a (zcp b c):=by
 refine z6h (zm0 (zm0 ha hb) hc).1 (zm0 ha (zm0 hb hc)).1 (zm0 (zm0 ha hb) hc).c (zm0 ha (zm0 hb hc)).c fun φ=> ?_
 refine (zIz φ c (zm0 ha hb).c hc.c).trans (((zIz φ b ha.c hb.c).add (.refl _)).trans (.trans ?_ (zIz φ (zcp b c) ha.c (zm0 hb hc).c).symm));refine .trans ?_ ((EqS.refl _).add (zIz φ c hb.c hc.c).symm);exact .inl (Nat.add_assoc _ _ _)
theorem zPr {c:Int} (h:c<=1152921504606846976):zyj c 1=c:=by
 unfold zyj;rw [if_neg (by rw [Int.tdiv_one]; omega)]; omega
theorem z8w {a:yB} (ha:∀ t∈a,cOK t):zfb a [⟨1,[]⟩]=a:=by
 induction a with
 | nil=>rfl
 | cons x a ih=>
  show zi1 x ⟨1,[]⟩::zfb a [⟨1,[]⟩]=_;rw [ih λt ht=>ha t (by simp [ht])]
  congr 1;unfold zi1;rw [zPr (ha x (by simp)).2,zFs]
theorem z9r {a:yB} (ha:PA a):znl a [⟨1,[]⟩]=a:=by
 unfold znl;rw [z8w ha.c,sum_nil ha.1]
theorem zbcZ:PA [⟨1,[]⟩]:=⟨by simp,λt ht=>by
 rw [qh] at ht; subst ht;exact ⟨⟨by decide,by decide⟩,MF.nil⟩⟩
theorem zJg {τ:Type} [Inhabited τ] {R:τ->τ->Prop}:∀ {l:List τ},l.Pairwise R->∀ k,0<k->k<l.length->R (l.getD (k - 1) default) (l.getD k default)
 | [],_,k,_,h=>by simp at h
 | x::r,h,0,h0,_=>by omega
 | x::r,h,1,_,h1=>(qi.1 h).1 _ (zm (by simpa using h1))
 | x::r,h,k+2,_,h1=>zJg (qi.1 h).2 (k+1) (by omega) (by simp only [qf] at h1; omega)
def OKF (vat:At->Bool) (fs:yC):Prop:=Srf fs/\∀ f∈fs,(1<=f.Exp/\(f.At.Kind=3\/f.At.Kind=4->f.Exp=1))/\vat f.At=true
theorem z6r {vat:At->Bool} {fs:yC}:okF vat fs=true↔OKF vat fs:=by
 constructor
 ·intro h;refine ⟨zum (R:=λx y=>cF x y<0) (λx y z h1 h2=>zDg h1 h2) _ λk hk hl=> ?_,λf hf=>zo3 h hf⟩
  have:=zdx.1 h k (by omega) (by omega)
  simp only [zMf,qc,Bool.or_eq_true,qe] at this;rcases this.1.2 with e | e
  ·omega
  ·exact e
 ·intro h;refine zdx.2 λk _ hk=> ?_
  have hm:=h.2 _ (zm (l:=fs) (i:=k) (by omega))
  simp only [zMf,qc,Bool.or_eq_true,qe,Bool.not_eq_true',Bool.and_eq_false_iff];refine ⟨⟨⟨hm.1.1, ?_⟩, ?_⟩,hm.2⟩
  ·by_cases hk:(fs.getD k default).At.Kind=3\/(fs.getD k default).At.Kind=4
   ·right; rw [hm.1.2 hk]; rfl
   ·left
    rw [Bool.or_eq_false_iff];constructor
    ·simpa using λe=>hk (.inl e)
    ·simpa using λe=>hk (.inr e)
  ·by_cases h0:k=0
   ·exact .inl h0
   ·exact .inr (zJg h.1 k (by omega) (by omega))
theorem zP4 {vat:At->Bool} {a:yB}:zwN vat a=true↔zfj a=true/\Srs a/\∀ t∈a,cOK t/\OKF vat t.Fs:=by
 constructor
 ·intro h;have hall:=h;simp only [zwN,qc] at hall;refine ⟨hall.1,zum (R:=λx y=>cT x y<0) (λx y z h1 h2=>zJ4 h1 h2) a λk hk hl=> ?_,λt ht=>⟨(zuO h ht).1,z6r.1 (zuO h ht).2⟩⟩
  have:=zdx.1 hall.2 k (by omega) (by omega)
  simp only [zCk,qc,Bool.or_eq_true,qe] at this;rcases this.1.2 with e | e
  ·omega
  ·exact e
 ·rintro ⟨h1,h2,h3⟩
  simp only [zwN,qc];refine ⟨h1,zdx.2 λk _ hk=> ?_⟩
  have hm:=h3 _ (zm (l:=a) (i:=k) (by omega))
  simp only [zCk,qc,Bool.or_eq_true,qe];refine ⟨⟨⟨hm.1.1,hm.1.2⟩, ?_⟩,z6r.2 hm.2⟩;by_cases h0:k=0
  ·exact .inl h0
  ·exact .inr (zJg h2 k (by omega) (by omega))
def QA (a:yB):Prop:=Srs a/\∀ t∈a,cOK t/\OKF zoG t.Fs
theorem zsz {a:yB}:zS a=true↔zfj a=true/\QA a:=by rw [zZp]; exact zP4
theorem OKF.mf {fs:yC} (h:OKF zoG fs):MF fs:=⟨h.1,λf hf=>⟨⟨zBV (h.2 f hf).2,(h.2 f hf).1.2⟩,(h.2 f hf).1.1⟩⟩
theorem QA.pa {a:yB} (h:QA a):PA a:=⟨h.1,λt ht=>⟨(h.2 t ht).1,(h.2 t ht).2.mf⟩⟩
theorem zXk {a:yB} (h:zS a=true):QA a:=(zsz.1 h).2
theorem zDE {a:yB} (h:zS a=true):PA a:=(zXk h).pa
theorem MF.okf {fs:yC} (h:MF fs) (hv:∀ f∈fs,zoG f.At=true):OKF zoG fs:=⟨h.1,λf hf=>⟨⟨(h.2 f hf).2,(h.2 f hf).1.2⟩,hv f hf⟩⟩
theorem OKF.join {a b:yC} (ha:OKF zoG a) (hb:OKF zoG b):OKF zoG (zbz a b):=(zbb1 ha.mf hb.mf).okf λf hf=>by
 obtain ⟨y,hy,e⟩:=zs5 hf;rw [e];rcases hy with hy | hy
 ·exact (ha.2 y hy).2
 ·exact (hb.2 y hy).2
theorem zbdd {a b:yB} (ha:QA a) (hb:QA b):QA (zcp a b):=⟨zNM _ _ ha.1,λt ht=>⟨z67 b ha.pa.c hb.pa.c t ht,by
 obtain ⟨x,hx,e⟩:=zH7 b a ha.1 ht;rw [e];rcases hx with hx | hx
 ·exact (ha.2 x hx).2
 ·exact (hb.2 x hx).2⟩⟩
theorem QA.nil:QA []:=⟨List.Pairwise.nil,λt ht=>by cases ht⟩
theorem zba3 {x:At} (h:zoG x=true):QA (zcF x):=⟨by simp [zcF],λt ht=>by
 simp only [zcF,qh] at ht; subst ht;refine ⟨⟨by simp,by simp⟩,by simp,λf hf=> ?_⟩
 rw [qh] at hf; subst hf;exact ⟨⟨by simp,λ_=>rfl⟩,h⟩⟩
theorem zbc9 {a:yB} (h:(zlR a).2=0):zfj a=true/\zlR a=(a,0):=by
 unfold zlR at *;cases hw:zfj a with
 | true=>exact ⟨rfl,rfl⟩
 | false=>rw [hw] at h; simp at h
theorem zbdV {ok:Bool} {r:yB×Int} (h:(opR ok r).2=0):ok=true/\opR ok r=r:=by
 cases ok with
 | true=>exact ⟨rfl,rfl⟩
 | false=>simp [opR] at h
theorem z8r {a b:yB} (h:(zo8 a b).2=0):(zS a=true/\zS b=true/\zS (zcp a b)=true)/\zo8 a b=(zcp a b,0):=by
 obtain ⟨h1,h2⟩:=zbdV h;rw [qc] at h1;unfold zo8 at h;rw [h2] at h;obtain ⟨h3,h4⟩:=zbc9 h;exact ⟨⟨h1.1,h1.2,zsz.2 ⟨h3,zbdd (zXk h1.1) (zXk h1.2)⟩⟩,h2.trans h4⟩
theorem zH2 {a:yB} (h:zfj a=true):zlR a=(a,0):=by unfold zlR; rw [h]; rfl
theorem zba2 {a b:yB} (ha:zS a=true) (hb:zS b=true) (h:zfj (zcp a b)=true):zo8 a b=(zcp a b,0):=by
 unfold zo8; rw [ha,hb,zH2 h]; rfl
theorem z5Y {a b:yB} (ha:zS a=true) (hb:zS b=true) (h:zfj (znl a b)=true):zJl a b=(znl a b,0):=by
 unfold zJl; rw [ha,hb,zH2 h]; rfl
theorem z8g:zS []=true:=zsz.2 ⟨by decide,QA.nil⟩
theorem zXu {x:At}:zoG x=true↔VA zS x:=zdv
theorem z8a {x:At} (h:zoG x=true) (hw:zfj (zcF x)=true):zS (zcF x)=true:=zsz.2 ⟨hw,zba3 h⟩
theorem zbbt {x:At} (h:x.Kind=3\/x.Kind=4):znl (zcF x) (zcF x)=zcF x:=by
 have e:cF ⟨x,1⟩ ⟨x,1⟩=0:=cF_self' rfl;show zcp [] [zi1 ⟨1,[⟨x,1⟩]⟩ ⟨1,[⟨x,1⟩]⟩]=_
 have:zbz [⟨x,1⟩] [⟨x,1⟩]=[⟨x,1⟩]:=by
  rw [zbz,e,if_neg (by omega),if_neg (by omega),if_pos h,zbz]
 unfold zi1;simp only [this,zPr (show (1:Int)<=1152921504606846976 by omega)]
 rfl
def sbd {α β:Type} (x:Int⊕α) (k:α->Int⊕β):Int⊕β:=match x with
 | .inl e=>.inl e
 | .inr a=>k a
theorem zUY {α β:Type} (e:Int) (k:α->Int⊕β):sbd (.inl e) k=.inl e:=rfl
theorem zdz {α β:Type} (a:α) (k:α->Int⊕β):sbd (.inr a) k=k a:=rfl
def opS (r:yB×Int):Int⊕yB:=if r.2=0 then .inr r.1 else .inl r.2
def ofS:Int⊕yB->yB×Int
 | .inl e=>([],e)
 | .inr a=>(a,0)
theorem zVe {r:yB×Int} (h:r.2=0\/r.1=[]):ofS (opS r)=r:=by
 obtain ⟨a,e⟩:=r;simp only at h;unfold opS;by_cases he:e=0
 ·subst he; simp [ofS]
 ·rw [if_neg he];rcases h with h | h
  ·exact absurd h he
  ·subst h; rfl
theorem z3c {a:yB}:opS (a,0)=.inr a:=rfl
def zzY (b:yB):Nat->yB->Int⊕yB
 | 0,p=>.inr p
 | n+1,p=>sbd (opS (zJl p b)) (zzY b n)
mutual
def zhN (to:RowID->yB):At->Int⊕yB
 | ⟨k,r,a,f,i,o,b⟩=>if k=0 then .inr (to r) else
  sbd (zkv to a) λxs=>if k=1 then opS (zPs (xs.getD 0 default) (xs.getD 1 default)) else if k=2 then opS (zPh (xs.getD 0 default)) else if k=3 then opS (zP9 (xs.getD 0 default)) else
   sbd (zhv to i) λis=>opS (zxe f is o b)
def zeB (to:RowID->yB):yC->yB->Int⊕yB
 | [],p=>.inr p
 | ⟨x,e⟩::r,p=>sbd (zhN to x) λb=>sbd (zzY b e.toNat p) λq=>zeB to r q
def zdC (to:RowID->yB):yB->yB->Int⊕yB
 | [],s=>.inr s
 | ⟨c,fs⟩::r,s=>sbd (zeB to fs (zz5 c)) λp=>sbd (opS (zo8 s p)) λq=>zdC to r q
def zkv (to:RowID->yB):yA->Int⊕yA
 | []=>.inr []
 | a::r=>sbd (zdC to a []) λb=>sbd (zkv to r) λl=>.inr (b::l)
def zhv (to:RowID->yB):yD->Int⊕yD
 | []=>.inr []
 | ⟨v,a⟩::r=>sbd (zdC to a []) λb=>sbd (zhv to r) λl=>.inr (⟨v,b⟩::l)
end
variable (to:RowID->yB)
theorem zRh (p:yB):zeB to [] p=.inr p:=by rw [zeB]
theorem zOK (f:Fc) (r:yC) (p:yB):zeB to (f::r) p=sbd (zhN to f.At) λb=>sbd (zzY b f.Exp.toNat p) λq=>zeB to r q:=by cases f; rw [zeB]
theorem z07 (s:yB):zdC to [] s=.inr s:=by rw [zdC]
theorem zZt (t:Term) (r s:yB):zdC to (t::r) s=sbd (zeB to t.Fs (zz5 t.Cf)) λp=>sbd (opS (zo8 s p)) λq=>zdC to r q:=by cases t; rw [zdC]
theorem zBx:zkv to []=.inr []:=by rw [zkv]
theorem zzE (a:yB) (r:yA):zkv to (a::r)=sbd (zdC to a []) λb=>sbd (zkv to r) λl=>.inr (b::l):=by rw [zkv]
theorem zWG:zhv to []=.inr []:=by rw [zhv]
theorem zSI (w:Wd) (r:yD):zhv to (w::r)=sbd (zdC to w.Ann []) λb=>sbd (zhv to r) λl=>.inr (⟨w.Value,b⟩::l):=by cases w; rw [zhv]
theorem z0U (x:At):zhN to x=if x.Kind=0 then .inr (to x.Row) else
  sbd (zkv to x.Ag) λxs=>if x.Kind=1 then opS (zPs (xs.getD 0 default) (xs.getD 1 default)) else if x.Kind=2 then opS (zPh (xs.getD 0 default)) else if x.Kind=3 then opS (zP9 (xs.getD 0 default)) else
   sbd (zhv to x.Items) λis=>opS (zxe x.Func is x.Op x.Bd):=by cases x; rw [zhN]
def GE {α:Type} (P:α->Prop):Int⊕α->Prop
 | .inl e=>e≠0
 | .inr a=>P a
abbrev GS:Int⊕yB->Prop:=GE okA
theorem zPM {r:yB×Int} (h:okR r):GS (opS r):=by
 unfold opS;by_cases he:r.2=0
 ·rw [if_pos he]; exact h.1
 ·rw [if_neg he]; exact he
theorem zK1 {α β:Type} {P:α->Prop} {Q:β->Prop} {x:Int⊕α} {k:α->Int⊕β} (hx:GE P x) (hk:∀ a,P a->GE Q (k a)):GE Q (sbd x k):=by
 cases x with
 | inl e=>exact hx
 | inr a=>exact hk a hx
theorem z4K {b:yB} (hb:okA b):∀ (n:Nat) (p:yB),okA p->GS (zzY b n p)
 | 0,p,hp=>hp
 | n+1,p,hp=>zK1 (zPM (z6E hp hb)) λq hq=>z4K hb n q hq
abbrev GL (n:Nat):Int⊕yA->Prop:=GE λl=>l.length=n/\∀ a∈l,okA a
abbrev GI (i:yD):Int⊕yD->Prop:=GE λl=>l.length=i.length/\∀ w∈l,okA w.Ann/\∃ v∈i,v.Value=w.Value
theorem z7g (w:Wd):zEW w↔zMF w.Value/\zgC w.Ann/\w.Ann.length<=zX:=by cases w; unfold zEW; exact Iff.rfl
theorem z8f {k f o:Int} {r:RowID} {a:yA} {i:yD} {b:Value} (h1:wf3 k) (h2:zWL r) (h3:zv5 a/\a.length<=zX) (h4:wf3 f) (h5:zr2 i/\i.length<=zX) (h6:wf3 o) (h7:zMF b):zgz ⟨k,r,a,f,i,o,b⟩:=by
 unfold zgz; exact ⟨h1,h2,h3,h4,h5,h6,h7⟩
theorem z09 {f o:Int} {l:yD} {b:Value} (hl:l.length<=1000000) (h:∀ w∈l,okA w.Ann/\zMF w.Value) (hf:wf3 f) (ho:wf3 o) (hb:zMF b):okR (zxe f l o b):=by
 unfold zxe;cases hk:zzk f l o b with
 | false=>exact ⟨zk5,.inr rfl⟩
 | true=>
  cases hv:l.all λw=>zS w.Ann with
  | false=>exact ⟨zk5,.inr rfl⟩
  | true=>
   simp only [Bool.and_self,Bool.not_true,cond_false];cases decide (0<(zdT l).length) with
   | true=>
    obtain ⟨tf,ts⟩:=zID hl hk hv;have hr:zX=140737488351232:=rfl;have hlen:(zdT l).length<=1000000:=by rw [zY7]; exact Nat.le_trans (List.length_filter_le _ _) hl
    refine zH5 ⟨⟨tf.mono (by omega),ts⟩,zDn _ λt ht=> ?_,by simp [zcF,zX]⟩
    simp only [zcF,qh] at ht;subst ht;refine zS1 ⟨by simp,by simp⟩ (λg hg=> ?_) (by simp)
    simp only [qh] at hg;subst hg;refine ⟨z8f (zTu (zTr (by omega))) ⟨zpK,zpK⟩ ⟨by unfold zv5; trivial,by simp⟩ hf ⟨zPn _ λw hw=> ?_,by omega⟩ ho hb,⟨by simp,by simp⟩⟩
    have hm:=h w (zG1 hw).1;exact (z7g w).2 ⟨hm.2,hm.1.2⟩
   | false=>
    cases f==0&&zMB o (zeb 0 b.Int) with
    | true=>exact ⟨zU1 1 (by omega),.inl rfl⟩
    | false=>exact ⟨zk5,.inl rfl⟩
theorem zO4 {l:yA} (h:∀ a∈l,okA a) (i:Nat):okA (l.getD i default):=by
 by_cases hi:i<l.length
 ·exact h _ (zm hi)
 ·rw [List.getD_eq_getElem?_getD,List.getElem?_eq_none (by omega)]; exact zk5
def okT (to:RowID->yB):Prop:=∀ r,zWL r->okA (to r)
variable {to}
mutual
theorem z1B (ht:okT to):∀ (x:At) (d:Nat),zgz x->zc7 (zn d) x->GS (zhN to x)
 | ⟨k,r,a,f,i,o,b⟩=>λd hw hi=>by
  have hw':=zsb hw;simp only at hw';obtain ⟨⟨ha,hal⟩,⟨hit,hil⟩,hb,hk,hr,hf,ho⟩:=hw';obtain ⟨⟨l1,l2,_⟩,f1,f2⟩:=hi;simp only at l1 l2 f1 f2;rw [zhN];by_cases hk0:k=0
  ·rw [if_pos hk0]; exact ht r hr
  ·rw [if_neg hk0];have hA:=zS3 ht a d (λx hx=>(zju ha x hx).1) f1
   refine zK1 hA λxs has=> ?_
   have h0:=zO4 has.2 0;have h1:=zO4 has.2 1;split
   ·exact zPM (z6R h0 h1)
   ·split
    ·exact zPM (z54 h0)
    ·split
     ·exact zPM (z6H h0)
     ·have hI:=zP5 ht i d (λx hx=>(zje hit x hx).2.1) λw hw=>(f2 w hw).2
      refine zK1 hI λis his=> ?_
      refine zPM (z09 (by omega) (λw hw=>⟨(his.2 w hw).1, ?_⟩) hf ho hb)
      obtain ⟨v,hv,e⟩:=(his.2 w hw).2;rw [<- e]; exact (zje hit v hv).1
theorem zJq (ht:okT to):∀ (l:yC) (d:Nat),(∀ f∈l,zgz f.At/\zc7 (zn d) f.At)->∀ p,okA p->GS (zeB to l p)
 | [],_,_,p,hp=>by rw [zeB]; exact hp
 | ⟨x,e⟩::r,d,h,p,hp=>by
  rw [zeB];have hx:=z1B ht x d (h ⟨x,e⟩ (by simp)).1 (h ⟨x,e⟩ (by simp)).2
  refine zK1 hx λb hb=>zK1 (z4K hb _ p hp) λq hq=> ?_
  exact zJq ht r d (λf hf=>h f (by simp [hf])) q hq
theorem zOR (ht:okT to):∀ (a:yB) (d:Nat),zgC a->(∀ t∈a,∀ f∈t.Fs,zc7 (zn d) f.At)->∀ s,okA s->GS (zdC to a s)
 | [],_,_,_,s,hs=>by rw [zdC]; exact hs
 | ⟨c,fs⟩::r,d,hw,hi,s,hs=>by
  rw [zdC];have hwt:=zsd hw ⟨c,fs⟩ (by simp)
  have hp:=zJq ht fs d (λf hf=>⟨(zqN (znO (zvr hwt).2.1 f hf)).1,hi ⟨c,fs⟩ (by simp) f hf⟩) (zz5 c) (z8L c)
  refine zK1 hp λp hp=>zK1 (zPM (z0w hs hp)) λq hq=> ?_
  exact zOR ht r d (zDn _ λt ht=>zsd hw t (by simp [ht])) (λt ht=>hi t (by simp [ht])) q hq
theorem zS3 (ht:okT to):∀ (l:yA) (d:Nat),(∀ a∈l,zgC a)->(∀ a∈l,zn d a)->GL l.length (zkv to l)
 | [],_,_,_=>by rw [zkv]; exact ⟨rfl,λa ha=>by cases ha⟩
 | a::r,d,h,hi=>by
  rw [zkv];have hf:=hi a (by simp)
  have h1:GS (zdC to a []):=by
   cases d with
   | zero=>exact hf.elim
   | succ d=>exact zOR ht a d (h a (by simp)) (λt ht f hf'=>(hf.2 t ht).2 f hf') [] zk5
  have h2:=zS3 ht r d (λb hb=>h b (by simp [hb])) (λb hb=>hi b (by simp [hb]))
  revert h1 h2;cases zdC to a [] with
  | inl e=>exact λh _=>h
  | inr b=>
   cases zkv to r with
   | inl e=>exact λ_ h=>h
   | inr l=>
    intro h1 h2;refine ⟨by simp [h2.1],λx hx=> ?_⟩
    rcases qd.1 hx with rfl | hx
    ·exact h1
    ·exact h2.2 x hx
theorem zP5 (ht:okT to):∀ (l:yD) (d:Nat),(∀ w∈l,zgC w.Ann)->(∀ w∈l,zn d w.Ann)->GI l (zhv to l)
 | [],_,_,_=>by rw [zhv]; exact ⟨rfl,λa ha=>by cases ha⟩
 | ⟨v,a⟩::r,d,h,hi=>by
  rw [zhv];have hf:zn d a:=hi ⟨v,a⟩ (by simp)
  have h1:GS (zdC to a []):=by
   cases d with
   | zero=>exact hf.elim
   | succ d=>exact zOR ht a d (h ⟨v,a⟩ (by simp)) (λt ht f hf'=>(hf.2 t ht).2 f hf') [] zk5
  have h2:=zP5 ht r d (λb hb=>h b (by simp [hb])) (λb hb=>hi b (by simp [hb]))
  revert h1 h2;cases zdC to a [] with
  | inl e=>exact λh _=>h
  | inr b=>
   cases zhv to r with
   | inl e=>exact λ_ h=>h
   | inr l=>
    intro h1 h2;refine ⟨by simp [h2.1],λx hx=> ?_⟩
    rcases qd.1 hx with rfl | hx
    ·exact ⟨h1,⟨v,a⟩,by simp,rfl⟩
    ·obtain ⟨h3,w,hw,e⟩:=h2.2 x hx;exact ⟨h3,w,by simp [hw],e⟩
end
end Go.Proofs.YtoknknbmfmddbaaGreatDoor
namespace Go.Proofs.YtoknknbmfmddbaaGreatDoor
open Go Go.Ab
end Go.Proofs.YtoknknbmfmddbaaGreatDoor
/- Substitution: both sides compute the same. -/
namespace Go.Proofs.YtoknknbmfmddbaaGreatDoor
open Go Go.Ab
def toA:yE->RowID->yB
 | [],r=>zvb r
 | b::l,r=>if b.Row=r then b.To else toA l r
def okB (l:yE):Prop:=l.length<=1000/\∀ b∈l,okA b.To
theorem z8T:∀ {l:yE},(∀ b∈l,okA b.To)->okT (toA l)
 | [],_,r,hr=>by rw [toA]; exact zbdu hr
 | b::l,h,r,hr=>by
  rw [toA];split
  ·exact h b (by simp)
  ·exact z8T (λc hc=>h c (by simp [hc])) r hr
theorem zbb5 (a b:RowID):(a.Table==b.Table&&(a.Seq==b.Seq&&true))=decide (a=b):=by
 obtain ⟨t,s⟩:=a; obtain ⟨t',s'⟩:=b;rw [Bool.and_true,zf8,zf8, <- Bool.decide_and];congr 1;simp
theorem z6z:∀ (l:yE) (r:RowID) (i:Nat),(ixf (λb=>decide (b.Row=r)) l i= -1/\toA l r=zvb r)\/∃ j,j<l.length/\ixf (λb=>decide (b.Row=r)) l i=((i+j:Nat):Int)/\toA l r=(l.getD j default).To
 | [],r,i=>.inl ⟨rfl,rfl⟩
 | b::l,r,i=>by
  rw [ixf,toA];by_cases h:b.Row=r
  ·rw [decide_eq_true h,cond_true,if_pos h];exact .inr ⟨0,by simp,rfl,rfl⟩
  ·rw [decide_eq_false h,cond_false,if_neg h];rcases z6z l r (i+1) with ⟨h1,h2⟩ | ⟨j,h1,h2,h3⟩
   ·exact .inl ⟨h1,h2⟩
   ·exact .inr ⟨j+1,by simp; omega,by rw [h2]; congr 1; omega,h3⟩
theorem zbd1 {l:yE} (h:okB l) (r:RowID):zhQ r l=(true,toA l r):=by
 unfold zhQ zwf
 have hi:zcv l r=(true,ixf (λb=>decide (b.Row=r)) l 0):=by
  have e:zcv l r=IH (λ(g:RowID×Unit) x=>zfX x g.1) (l.length+(Int.ofNat l.length).toNat +Int.toNat (0:Int)+(1:Nat)) (r,()) l:=rfl
  rw [e]
  exact z7J _ _ _ _ _ (by have:=h.1; omega) (λx _=>by
   unfold zfX ztq;rw [Wy.fin_k,zbb5]) (by omega)
 rw [Wy.fin_bn,hi];rcases z6z l r 0 with ⟨h1,h2⟩ | ⟨j,h1,h2,h3⟩
 ·rw [h1,h2];simp only [cond_true,Wy.fin_i,Wy.fin_bn,Wy.fin_k,(zbcD r).1];rfl
 ·rw [Nat.zero_add] at h2;rw [h2,h3];have hm:=h.2 _ (zm h1);have e1:decide ((j:Int)≥(0:Int))=true:=by simp
  simp only [cond_true,Wy.fin_i,Wy.fin_bn,Wy.fin_k,e1,tT,h1,zE1 hm.1.1 (show (12:Nat)<=100 by omega)]
def RS (s:Int⊕yB) (e:Int) (p:yB):Prop:=match s with
 | .inl x=>e=x/\x≠0
 | .inr q=>e=0/\p=q
theorem zbej (r:yB×Int):RS (opS r) r.2 r.1:=by
 unfold opS;by_cases h:r.2=0
 ·rw [if_pos h]; exact ⟨h,rfl⟩
 ·rw [if_neg h]; exact ⟨rfl,h⟩
theorem z9Y (b:yB) (s:Int⊕yB):sbd s (zzY b 0)=s:=by cases s <;>rfl
section
variable (g:At->yE->Bool×(yB×Int)) (to:yE)
theorem z7k (b:yB) (hb:okA b) (t16:yB) (t17 t18:Int) (t26:yC) (t27 t28:Int) (N:Nat) (hN:N<=1000000) (sum:yB):
  ∀ (n i:Nat) (e:Int) (p:yB) (s:Int⊕yB),N<i+n->i<=N->GS s->RS s e p->∃ e' p',zqm g n to b e t16 t17 t18 t26 t27 t28 N i sum p=(true,(to,e',t16,t17,t18,t26,t27,t28,sum,p'))/\RS (sbd s (zzY b (N - i))) e' p'
 | 0,i,e,p,s,h1,h2,_,_=>by omega
 | n+1,i,e,p,s,h1,h2,hs,hr=>by
  show ∃ e' p',(zqV g to b e t16 t17 t18 t26 t27 t28 N i sum p).ev (λx y=>zqm g n x.1.1.1 x.2.2.2.1 x.2.2.2.2.1 x.2.2.2.2.2.1 x.2.2.2.2.2.2.1 x.2.2.2.2.2.2.2.1 x.2.2.2.2.2.2.2.2.1 x.2.2.2.2.2.2.2.2.2.1 x.2.2.2.2.2.2.2.2.2.2.1 x.2.2.2.2.2.2.2.2.2.2.2.1 x.2.2.2.2.2.2.2.2.2.2.2.2.1 y.1 y.2.1) (λr=>(true,r)) (false,default)=_/\_
  unfold zqV;by_cases hi:i<N
  ·have hk:N - i=(N - (i+1))+1:=by omega
   cases s with
   | inl x=>
    obtain ⟨rfl,hx⟩:=hr;have he:(e==(0:Int))=false:=by simp [hx]
    simp only [Wy.ev_i,Wy.ev_k,Wy.ev_h,Wy.ev_bn,Wy.ev_d,ztP,hi,decide_true,cond_true,he,cond_false,zy (show i<4611686018427387904 by omega)]
    exact z7k b hb t16 t17 t18 t26 t27 t28 N hN sum n (i+1) e p (.inl e) (by omega) (by omega) hs ⟨rfl,hx⟩
   | inr q=>
    obtain ⟨rfl,rfl⟩:=hr;have hp:okA p:=hs;simp only [Wy.ev_i,Wy.ev_k,Wy.ev_h,Wy.ev_bn,Wy.ev_d,ztP,hi,decide_true,cond_true,(zbdb hp hb).1,zy (show i<4611686018427387904 by omega),show ((0:Int)==0)=true from rfl]
    rw [hk];exact z7k b hb t16 t17 t18 t26 t27 t28 N hN sum n (i+1) (zJl p b).2 (zJl p b).1 (opS (zJl p b)) (by omega) (by omega) (zPM (z6E hp hb)) (zbej _)
  ·have hk:N - i=0:=by omega
   simp only [Wy.ev_i,Wy.ev_k,ztP,hi,decide_false,cond_false];rw [hk,z9Y];exact ⟨e,p,rfl,hr⟩
def AG (l:yC):Prop:=∀ f∈l,(g f.At to=(true,ofS (zhN (toA to) f.At))/\GS (zhN (toA to) f.At))/\0<=f.Exp/\f.Exp<=1000000
theorem zbcL {s:Int⊕yB} (h:GS s):okA (ofS s).1:=by
 cases s with
 | inl e=>exact zk5
 | inr a=>exact h
theorem zbaI {s:Int⊕yB} (h:GS s) (p:yB):RS (sbd s λ_=>.inr p) (ofS s).2 p:=by
 cases s with
 | inl e=>exact ⟨rfl,h⟩
 | inr a=>exact ⟨rfl,rfl⟩
theorem z96 {s:Int⊕yB} (h:GS s) {p:yB} (hp:okA p):GS (sbd s λ_=>.inr p):=zK1 h λ_ _=>hp
theorem z8y {s:Int⊕yB} (p:yB) (N:Nat):sbd (sbd s λ_=>.inr p) (zzY (ofS s).1 N)=sbd s λb=>zzY b N p:=by
 cases s <;>rfl
theorem zbdM (l:yC) (hl:l.length<=1000000) (hg:AG g to l) (t16:yB) (t17 t18:Int) (sum:yB):
  ∀ (n i:Nat) (p:yB),l.length<i+n->i<=l.length->okA p->zrr g n to t16 t17 t18 l l.length i sum p=(true,match zeB (toA to) (l.drop i) p with
   | .inl e=>.inl e
   | .inr q=>.inr (to,t16,t17,t18,sum,q))
 | 0,i,p,h1,h2,_=>by omega
 | n+1,i,p,h1,h2,hp=>by
  show (zrL g to t16 t17 t18 l l.length i sum p).ev (λx y=>zrr g n x.1.1.1 x.2.2.2.1 x.2.2.2.2.1 x.2.2.2.2.2.1 x.2.2.2.2.2.2.1 x.2.2.2.2.2.2.2.1 x.2.2.2.2.2.2.2.2.1 y.1 y.2.1) (λr=>(true,r)) (false,.inl default)=_
  unfold zrL;by_cases hi:i<l.length
  ·obtain ⟨⟨hf,hG⟩,e0,e1⟩:=hg _ (zm hi);obtain ⟨N,hN⟩:∃ N:Nat,(l.getD i default).Exp=(N:Int):=⟨_,(Int.toNat_of_nonneg e0).symm⟩
   obtain ⟨e',p',h11,hrs⟩:=z7k g to (ofS (zhN (toA to) (l.getD i default).At)).1 (zbcL hG) t16 t17 t18 l l.length i N (by omega) sum
    (to.length+(ofS (zhN (toA to) (l.getD i default).At)).1.length+(ofS (zhN (toA to) (l.getD i default).At)).2.toNat +t16.length+t17.toNat +t18.toNat +l.length+(l.length:Int).toNat +(i:Int).toNat +(N:Int).toNat +Int.toNat (0:Int)+sum.length+p.length+(1:Nat)) 0 _ p _ (by omega) (by omega) (z96 hG hp) (zbaI hG p)
   rw [z8y,Nat.sub_zero] at hrs;rw [show ((0:Nat):Int)=(0:Int) from rfl] at h11
   rw [zbh hi,zOK,hN,Int.toNat_natCast];simp only [Wy.ev_i,Wy.ev_k,Wy.ev_h,Wy.ev_bn,Wy.ev_d,tT,hi,At.eta,hf,hN,zry];rw [show Int.toNat (l.length:Int)=l.length from Int.toNat_natCast _,show Int.toNat (i:Int)=i from Int.toNat_natCast _,show Int.toNat (N:Int)=N from Int.toNat_natCast _] at h11
   rw [h11];have hS:=hG;revert hrs hS;cases zhN (toA to) (l.getD i default).At with
   | inl x=>
    rintro ⟨rfl,hx⟩ _
    simp [hx,zUY]
   | inr b=>
    intro hrs hb;simp only [zdz] at hrs ⊢;have hq:=z4K (b:=b) hb N p hp;revert hrs hq;cases zzY b N p with
    | inl x=>
     rintro ⟨rfl,hx⟩ _
     simp [hx,zUY]
    | inr q=>
     rintro ⟨rfl,rfl⟩ hq
     simp only [zdz,decide_true,Bool.not_true,cond_true,cond_false,zy (show i<4611686018427387904 by omega)]
     exact zbdM l hl hg t16 t17 t18 sum n (i+1) p' (by omega) (by omega) hq
  ·simp only [Wy.ev_i,Wy.ev_k,Wy.ev_h,Wy.ev_bn,Wy.ev_d,tT,hi];rw [zcu hi,zRh]
theorem zbcP (l:yB) (hl:l.length<=1000000) (hg:∀ t∈l,t.Fs.length<=1000000/\AG g to t.Fs) (hok:∀ t∈l,∀ p,okA p->GS (zeB (toA to) t.Fs p)):
  ∀ (n i:Nat) (s:yB),l.length<i+n->i<=l.length->okA s->zrD g n to l l.length i s=(true,zdC (toA to) (l.drop i) s)
 | 0,i,s,h1,h2,_=>by omega
 | n+1,i,s,h1,h2,hs=>by
  show (zrF g to l l.length i s).ev (λx y=>zrD g n x.1.1.1 x.2.2.1 x.2.2.2.1 x.2.2.2.2.1 y.1) (λr=>(true,r)) (false,.inl default)=_
  unfold zrF;by_cases hi:i<l.length
  ·have ht:=hg _ (zm hi);have hc:=z8L (l.getD i default).Cf;have h7:=zbdM g to (l.getD i default).Fs ht.1 ht.2 l l.length i s (to.length+l.length+(l.length:Int).toNat +(i:Int).toNat +(l.getD i default).Fs.length+((l.getD i default).Fs.length:Int).toNat +Int.toNat (0:Int)+s.length+(zz5 (l.getD i default).Cf).length+(1:Nat)) 0 (zz5 (l.getD i default).Cf) (by omega) (by omega) hc
   rw [show ((0:Nat):Int)=(0:Int) from rfl,List.drop_zero] at h7
   simp only [Int.toNat_natCast] at h7;rw [zbh hi,zZt];simp only [Wy.ev_i,Wy.ev_k,Wy.ev_h,Wy.ev_bn,Wy.ev_d,tT,hi,(z9s _).1];rw [h7];have hS:=hok _ (zm hi) _ hc;revert hS;cases zeB (toA to) (l.getD i default).Fs (zz5 (l.getD i default).Cf) with
   | inl e=>intro _; rfl
   | inr p=>
    intro hp;have hp:okA p:=hp;simp only [zdz,isL,getR,cond_true,cond_false,(z9o hs hp).1,zry];have hG:=z0w hs hp;unfold opS;by_cases he:(zo8 s p).2=0
    ·rw [if_pos he,decide_eq_true he,zdz,zy (show i<4611686018427387904 by omega)]
     exact zbcP l hl hg hok n (i+1) _ (by omega) (by omega) hG.1
    ·rw [if_neg he,decide_eq_false he]; rfl
  ·simp only [Wy.ev_i,Wy.ev_k,Wy.ev_h,Wy.ev_bn,Wy.ev_d,tT,hi];rw [zcu hi,z07]
theorem zbeI (a:yB) (hl:a.length<=1000000) (hg:∀ t∈a,t.Fs.length<=1000000/\AG g to t.Fs) (hok:∀ t∈a,∀ p,okA p->GS (zeB (toA to) t.Fs p)):zkR g a to=(true,ofS (zdC (toA to) a [])):=by
 unfold zkR zzw;have h3:=zbcP g to a hl hg hok (to.length+a.length+(Int.ofNat a.length).toNat +Int.toNat (0:Int)+(0:Nat)+(1:Nat)) 0 [] (by omega) (by omega) zk5
 rw [show ((0:Nat):Int)=(0:Int) from rfl,List.drop_zero] at h3
 rw [Wy.fin_bn,show Int.ofNat a.length=(a.length:Int) from rfl] at *
 rw [h3];cases zdC (toA to) a [] <;>rfl
end
section
variable (g:yB->yE->Bool×(yB×Int)) (to:yE)
theorem zbdE (x:At) (l:yA) (hl:l.length<=1000000) (hg:∀ a∈l,g a to=(true,ofS (zdC (toA to) a []))/\GS (zdC (toA to) a [])):
  ∀ (n i:Nat) (xs:yA),l.length<i+n->i<=l.length->xs.length<=i->ziW g n to l l.length i x xs=(true,match zkv (toA to) (l.drop i) with
   | .inl e=>.inl e
   | .inr ys=>.inr (to,x,xs++ys))
 | 0,i,xs,h1,h2,_=>by omega
 | n+1,i,xs,h1,h2,hx=>by
  have hreach:zI=70368744177664:=rfl;show (zmT g to l l.length i x xs).ev (λx y=>ziW g n x.1.1.1 x.2.2.2.1 x.2.2.2.2.1 x.2.2.2.2.2.1 y.1 y.2.1) (λr=>(true,r)) (false,.inl default)=_
  unfold zmT;by_cases hi:i<l.length
  ·obtain ⟨hf,hG⟩:=hg _ (zm hi);have hb:decide ((xs.length+1)*24<=zI)=true:=by simp only [qe]; omega
   rw [zbh hi,zzE];simp only [Wy.ev_i,Wy.ev_k,Wy.ev_h,Wy.ev_bn,Wy.ev_d,tT,hi,hf,zry,List.length_singleton,hb];revert hG;cases zdC (toA to) (l.getD i default) [] with
   | inl e=>intro he; simp [ofS,show e≠0 from he,zUY]
   | inr b=>
    intro _;simp only [ofS,decide_true,Bool.not_true,cond_false,zdz,zy (show i<4611686018427387904 by omega)]
    rw [zbdE x l hl hg n (i+1) (xs++[b]) (by omega) (by omega) (by simp; omega)]
    cases zkv (toA to) (l.drop (i+1)) with
    | inl e=>rfl
    | inr ys=>simp [zdz]
  ·simp only [Wy.ev_i,Wy.ev_k,Wy.ev_h,Wy.ev_bn,Wy.ev_d,tT,hi];rw [zcu hi,zBx]; simp
theorem zbaK (x:At) (l:yD) (hl:l.length<=1000000) (hg:∀ w∈l,g w.Ann to=(true,ofS (zdC (toA to) w.Ann []))/\GS (zdC (toA to) w.Ann [])):
  ∀ (n i:Nat) (xs:yD),l.length<i+n->i<=l.length->xs.length<=i->ziy g n to l l.length i x xs=(true,match zhv (toA to) (l.drop i) with
   | .inl e=>.inl e
   | .inr ys=>.inr (x,xs++ys))
 | 0,i,xs,h1,h2,_=>by omega
 | n+1,i,xs,h1,h2,hx=>by
  have hreach:zI=70368744177664:=rfl;show (zlX g to l l.length i x xs).ev (λx y=>ziy g n x.1.1.1 x.2.2.2.1 x.2.2.2.2.1 x.2.2.2.2.2.1 y.1 y.2.1) (λr=>(true,r)) (false,.inl default)=_
  unfold zlX;by_cases hi:i<l.length
  ·obtain ⟨hf,hG⟩:=hg _ (zm hi);have hb:decide ((xs.length+1)*56<=zI)=true:=by simp only [qe]; omega
   rw [zbh hi,zSI];simp only [Wy.ev_i,Wy.ev_k,Wy.ev_h,Wy.ev_bn,Wy.ev_d,tT,hi,hf,zry,List.length_singleton,hb];revert hG;cases zdC (toA to) (l.getD i default).Ann [] with
   | inl e=>intro he; simp [ofS,show e≠0 from he,zUY]
   | inr b=>
    intro _;simp only [ofS,decide_true,Bool.not_true,cond_false,zdz,zy (show i<4611686018427387904 by omega)]
    rw [zbaK x l hl hg n (i+1) (xs++[WO.mk (l.getD i default).Value b]) (by omega) (by omega) (by simp; omega)]
    cases zhv (toA to) (l.drop (i+1)) with
    | inl e=>rfl
    | inr ys=>simp [zdz]
  ·simp only [Wy.ev_i,Wy.ev_k,Wy.ev_h,Wy.ev_bn,Wy.ev_d,tT,hi];rw [zcu hi,zWG]; simp
structure XG (x:At):Prop where
 va:zoG x=true
 lens:x.Ag.length<=1000000/\x.Items.length<20
 ga:∀ a∈x.Ag,g a to=(true,ofS (zdC (toA to) a []))/\GS (zdC (toA to) a [])
 gi:∀ w∈x.Items,g w.Ann to=(true,ofS (zdC (toA to) w.Ann []))/\GS (zdC (toA to) w.Ann [])
 sa:GL x.Ag.length (zkv (toA to) x.Ag)
 si:GI x.Items (zhv (toA to) x.Items)
 wf:zgz x
theorem zbbC {f o:Int} {i l:yD} {b:Value} (h20:i.length<20) (hl:l.length=i.length/\∀ w∈l,okA w.Ann/\∃ v∈i,v.Value=w.Value):znu f l o b=(true,zxe f l o b)/\zOS f l o b=(true,zxe f l o b):=by
 have h1:∀ w∈l,zn 12 w.Ann/\zM w.Ann<=4611686018427387904:=λw hw=>(hl.2 w hw).1.1
 have h2:(l.filter zl1).length<20:=Nat.lt_of_le_of_lt (List.length_filter_le _ _) (by omega)
 exact ⟨zbcu f l o b (by omega) h1 (by omega) h2,zbap f l o b (by omega) h1 (by omega)⟩
theorem z8p {x:At} (h:zoG x=true):(x.Kind=1->x.Ag.length=2)/\(x.Kind=2\/x.Kind=3->x.Ag.length=1):=by
 cases zXu.1 h <;>simp
theorem zbbY (hto:okB to) (x:At) (h:XG g to x):zhY g x to=(true,ofS (zhN (toA to) x)):=by
 unfold zhY zv6;have h5:=zbdE g to x x.Ag h.lens.1 h.ga (to.length+x.Ag.length+(Int.ofNat x.Ag.length).toNat +Int.toNat (0:Int)+x.Ag.length+x.Items.length+(0:Nat)+(1:Nat)) 0 [] (by omega) (by omega) (by simp)
 rw [show ((0:Nat):Int)=(0:Int) from rfl,List.drop_zero] at h5
 have h5':ziW g (to.length+x.Ag.length+(Int.ofNat x.Ag.length).toNat +Int.toNat (0:Int)+x.Ag.length+x.Items.length+(0:Nat)+(1:Nat)) to x.Ag (Int.ofNat x.Ag.length) 0 x []=_:=h5;have h21:=zbaK g to x x.Items (by have:=h.lens.2; omega) h.gi (to.length+x.Items.length+(Int.ofNat x.Items.length).toNat +Int.toNat (0:Int)+x.Ag.length+x.Items.length+(0:Nat)+(1:Nat)) 0 [] (by omega) (by omega) (by simp)
 rw [show ((0:Nat):Int)=(0:Int) from rfl,List.drop_zero] at h21
 have h21':ziy g (to.length+x.Items.length+(Int.ofNat x.Items.length).toNat +Int.toNat (0:Int)+x.Ag.length+x.Items.length+(0:Nat)+(1:Nat)) to x.Items (Int.ofNat x.Items.length) 0 x []=_:=h21;rw [At.eta,z0U];have b0:=zf8 x.Kind 0;have b1:=zf8 x.Kind 1;have b2:=zf8 x.Kind 2;have b3:=zf8 x.Kind 3;simp only [Wy.fin_i,Wy.fin_bn,Wy.fin_k,zbd1 hto,cond_true,h5',List.nil_append];by_cases hk0:x.Kind=0
 ·rw [b0,decide_eq_true hk0,if_pos hk0]; rfl
 ·rw [b0,decide_eq_false hk0,if_neg hk0,cond_false];have hA:=h.sa;have hlen:=z8p h.va;revert hA;cases zkv (toA to) x.Ag with
  | inl e=>intro _; rfl
  | inr xs=>
   intro hxs;have hxl:xs.length=x.Ag.length/\∀ a∈xs,okA a:=hxs;have o0:=zO4 hxl.2 0;have o1:=zO4 hxl.2 1;simp only [isL,getR,cond_false,zdz];by_cases hk1:x.Kind=1
   ·have:=hlen.1 hk1;rw [b1,decide_eq_true hk1,if_pos hk1];simp only [cond_true,show Int.toNat (0:Int)=0 from rfl,show Int.toNat (1:Int)=1 from rfl,(z93 o0 o1).1,zVe (z6R o0 o1).2]
    simp [hxl.1,this]
   ·rw [b1,decide_eq_false hk1,if_neg hk1,cond_false];by_cases hk2:x.Kind=2
    ·have:=hlen.2 (.inl hk2);rw [b2,decide_eq_true hk2,if_pos hk2];simp only [cond_true,show Int.toNat (0:Int)=0 from rfl,show Int.toNat (1:Int)=1 from rfl,(zbax o0).1,zVe (z54 o0).2]
     simp [hxl.1,this]
    ·rw [b2,decide_eq_false hk2,if_neg hk2,cond_false];by_cases hk3:x.Kind=3
     ·have:=hlen.2 (.inr hk3);rw [b3,decide_eq_true hk3,if_pos hk3];simp only [cond_true,show Int.toNat (0:Int)=0 from rfl,show Int.toNat (1:Int)=1 from rfl,(z8l o0).1,zVe (z6H o0).2]
      simp [hxl.1,this]
     ·rw [b3,decide_eq_false hk3,if_neg hk3,cond_false,At.eta,h21'];have hI:=h.si;revert hI;cases zhv (toA to) x.Items with
      | inl e=>intro _; rfl
      | inr is=>
       intro his;have ht:=zbbC (f:=x.Func) (o:=x.Op) (b:=x.Bd) h.lens.2 his;simp only [cond_true,cond_false,List.nil_append,ht.1,zdz];have hw:=zsb h.wf;have hl:is.length=x.Items.length/\∀ w∈is,okA w.Ann/\∃ v∈x.Items,v.Value=w.Value:=his
       rw [zVe (z09 (by have:=h.lens.2; omega) (λw hw'=>⟨(hl.2 w hw').1,by
        obtain ⟨v,hv,e⟩:=(hl.2 w hw').2;rw [<- e]; exact (zje hw.2.1.1 v hv).1⟩) hw.2.2.2.2.2.1 hw.2.2.2.2.2.2 hw.2.2.1).2]
end
end Go.Proofs.YtoknknbmfmddbaaGreatDoor
end
