/- Texts of this claim, joined (the program, its functions in plain words, and what they compute). -/
import Derived.Test.YtnolcogncjijpaaGreatDoorGC8
import Derived.Test.YtnolcogncjijpaaGreatDoorGC4
import Derived.Test.YtnolcogncjijpaaGreatDoorGC3
import Derived.Test.YtnolcogncjijpaaGreatDoorGC5
import Derived.Test.YtnolcogncjijpaaGreatDoorGC6
set_option autoImplicit false
set_option linter.unusedVariables false
set_option linter.unusedSectionVars false
set_option linter.unusedSimpArgs false
set_option maxRecDepth 1000000
set_option maxHeartbeats 0
/- The operations of both sides. -/
noncomputable section
namespace Go.Proofs.YtnolcogncjijpaaGreatDoor
open Go Go.Ab
theorem zIn {B:Nat}:∀ l:List Factor,(∀ f∈l,zeJ f.Atom≤B)→zbM l≤l.length*B
 | [],_=>by rw [zpN]; simp
 | f::r,h=>by
  have h1:=h f (by simp)
  have h2:=zIn r fun g hg=>h g (by simp [hg])
  rw [zeO,List.length_cons,Nat.add_mul]; omega
theorem zPr {B:Nat}:∀ l:List Term,(∀ t∈l,1+t.Factors.length+zbM t.Factors≤B)→zP l≤l.length*B
 | [],_=>by rw [zxL]; simp
 | f::r,h=>by
  have h1:=h f (by simp)
  have h2:=zPr r fun g hg=>h g (by simp [hg])
  rw [zi9,List.length_cons,Nat.add_mul]; omega
theorem zSD {l:List Term} (hl:l.length≤1000000) (h:∀ t∈l,GT t):zq 10 l∧zP l≤4611686018427387904:=by
 refine ⟨⟨hl,fun t ht=>(h t ht).fine⟩, ?_⟩
 refine Nat.le_trans (zPr (B:=4195330000) l fun t ht=> ?_) (by have:=Nat.mul_le_mul hl (Nat.le_refl 4195330000); omega)
 have hg:=h t ht
 have h1:=zIn (B:=4195328) t.Factors fun f hf=>zNP (hg.2.2 f hf).1.1 (hg.2.2 f hf).1.2.2
 have:=Nat.mul_le_mul hg.2.1 (Nat.le_refl 4195328)
 have:=hg.2.1
 omega
theorem zTe {t:Term} (ht:GT t) {l:List Term} (hs:Srs l) (h:∀ x∈l,GT x):∀ x∈putA t l,GT x:=fun x hx=>by
 have hc:=zXG ht.1 (fun y hy=>(h y hy).1) x hx
 rcases (zMV hs).1 hx with ⟨h1,_⟩ | ⟨h1,_⟩
 ·exact h x h1
 ·exact ⟨hc,by rw [h1]; exact ht.2⟩
theorem zHi:∀ (b a:List Term),Srs a→(∀ x∈a,GT x)→(∀ x∈b,GT x)→∀ x∈sumA a b,GT x
 | [],_,_,ha,_=>ha
 | t::r,a,hs,ha,hb=>zHi r (putA t a) (zzh hs) (zTe (hb t (by simp)) hs ha) fun x hx=>hb x (by simp [hx])
theorem zII {x y:Term} (hx:VT x) (hy:VT y):GT (zlt x y):=by
 obtain ⟨gx,sx,lx,ex⟩:=hx
 obtain ⟨gy,sy,ly,ey⟩:=hy
 refine ⟨(zPs gx.1 gy.1).1,by have:=zEJ x.Factors y.Factors; show (zbN x.Factors y.Factors).length≤1000; omega,fun f hf=> ?_⟩
 obtain ⟨g,hg,e⟩:=zqA hf
 have hb:=zDC (B:=64) (fun z hz=>⟨(gx.2.2 z hz).2.1,(ex z hz).2⟩) (fun z hz=>⟨(gy.2.2 z hz).2.1,(ey z hz).2⟩) hf
 have hv:(zdT (zbA 9) g.Atom=true∧zfr g.Atom∧g.Atom.Items.length≤1024):=by
  rcases hg with hg | hg
  ·exact (gx.2.2 g hg).1
  ·exact (gy.2.2 g hg).1
 exact ⟨by rw [e]; exact hv,hb.1,by omega⟩
theorem zOi {a b:List Term} (ha:∀ t∈a,VT t) (hb:∀ t∈b,VT t):∀ t∈zfg a b,GT t:=fun t ht=>by
 obtain ⟨x,hx,y,hy,rfl⟩:=zWs ht
 exact zII (ha x hx) (hb y hy)
theorem zYJ {x y:Term} (hx:VT x) (hy:VT y):zlo x.Factors y.Factors=(true,zbN x.Factors y.Factors):=by
 obtain ⟨gx,sx,lx,ex⟩:=hx
 obtain ⟨gy,sy,ly,ey⟩:=hy
 exact zYF (d:=9) (by omega) _ _ (by omega) (fun f hf=>⟨zqm (gx.2.2 f hf).1.1 (gx.2.2 f hf).1.2.2,by have:=(gx.2.2 f hf).2; omega⟩) fun f hf=>by have:=(gy.2.2 f hf).2; omega
theorem zZA (a b:List Term) (i:Int) (x:Term) (hx:VT x) (hb:∀ t∈b,VT t) (hbl:b.length≤512) (terms:List Term) (hl:terms.length≤1000000) (n:Nat) (hn:b.length<n):
  zC3 n b a a.length i b b.length 0 terms x=(true,(b,a,(a.length:Int),i,terms++b.map (zlt x))):=by
 have hreach:zQ=70368744177664:=rfl
 have:=zdt (W:=zo3) (z:=default) b.length (fun j=>(b,(),(),a,(a.length:Int),i,b,(b.length:Int),(j:Int),())) (fun j=>(terms++(b.take j).map (zlt x),x,())) (fun _=>true) default (b,a,(a.length:Int),i,terms++b.map (zlt x))
  (fun j hj H K D=>by
   show (zl8 b a a.length i b b.length j (terms++(b.take j).map (zlt x)) x).ev H K D=_
   unfold zl8
   have hy:=hb _ (zx hj)
   have hr:decide (((terms++(b.take j).map (zlt x)).length+1)*32≤zQ)=true:=by simp only [decide_eq_true_eq,List.length_append,List.length_map,List.length_take]; omega
   simp only [Wy.ev_i,Wy.ev_k,Wy.ev_h,Wy.ev_bn,Wy.ev_d,tT,hj,(zSX hx.1.1 hy.1.1).1,zYJ hx hy,List.length_singleton,hr]
   rw [zT (by omega),ziM hj,List.map_append, ← List.append_assoc]
   rfl)
  (fun H K D=>by
   show (zl8 b a a.length i b b.length b.length (terms++(b.take b.length).map (zlt x)) x).ev H K D=_
   unfold zl8
   simp only [Wy.ev_i,Wy.ev_k,tT,Nat.lt_irrefl,List.take_length]) n hn
 rw [show allN (fun _=>true) b.length 0=true from zea.2 fun _ _ _=>rfl] at this
 simp only [List.take_zero,List.map_nil,List.append_nil] at this
 exact this
theorem zZM (a b:List Term) (ha:∀ t∈a,VT t) (hb:∀ t∈b,VT t) (hal:a.length≤512) (hbl:b.length≤512) (n:Nat) (hn:a.length<n):
  zuw n b a a.length 0 []=(true,zfg a b):=by
 have:=zdt (W:=zo6) (z:=default) a.length (fun i=>(b,(),a,(a.length:Int),(i:Int),())) (fun i=>(zfg (a.take i) b,())) (fun _=>true) default (zfg a b)
  (fun i hi H K D=>by
   show (zl7 b a a.length i (zfg (a.take i) b)).ev H K D=_
   unfold zl7
   have hx:=ha _ (zx hi)
   have hlen:(zfg (a.take i) b).length≤1000000:=by
    rw [zMh,List.length_take]
    have:=Nat.mul_le_mul (show min i a.length≤512 by omega) hbl
    omega
   simp only [Wy.ev_i,Wy.ev_k,Wy.ev_h,Wy.ev_bn,Wy.ev_d,tT,hi]
   rw [zZA a b i _ hx hb hbl _ hlen _ (by omega)]
   simp only [cond_true]
   rw [zT (by omega),ziM hi]
   have e:zfg (a.take i++[a.getD i default]) b=zfg (a.take i) b++b.map (zlt (a.getD i default)):=by
    unfold zfg; rw [List.flatMap_append]; simp
   rw [e])
  (fun H K D=>by
   show (zl7 b a a.length a.length (zfg (a.take a.length) b)).ev H K D=_
   unfold zl7
   simp only [Wy.ev_i,Wy.ev_k,tT,Nat.lt_irrefl,List.take_length]) n hn
 rw [show allN (fun _=>true) a.length 0=true from zea.2 fun _ _ _=>rfl] at this
 exact this
theorem szTs_get' (a:List Term) (i:Nat) (h:i<a.length):(a.getD i default).Factors.length≤szTs a:=zEH a i h
theorem zXn (a b:List Term) (i:Int) (k:Nat) (hk:k<b.length) (out:List Term) (c:Int) (x:Term) (hx:VT x) (hy:VT (b.getD k default)) (n:Nat) (hn:(b.getD k default).Factors.length<n):
  zCf n a b i k 0 out c x.Factors=(true,(a,b,i,(k:Int),out,c,zbN x.Factors (b.getD k default).Factors)):=by
 obtain ⟨gx,sx,lx,ex⟩:=hx
 obtain ⟨gy0,sy,ly,ey⟩:=hy
 have gy:∀ f∈(b.getD k default).Factors,GF f:=gy0.2.2
 have sy:Srf (b.getD k default).Factors:=sy
 clear gy0
 generalize hF:(b.getD k default).Factors=F at *
 have key:∀ j,j<F.length→facA (F.getD j default) (zbN x.Factors (F.take j))=zbN x.Factors (F.take (j+1)):=fun j hj=>by
  have e1:=zJz (F.take j) x.Factors (sy.sublist (List.take_sublist _ _)) (fun z hz=>(ex z hz).1) fun z hz=>(ey z (List.mem_of_mem_take hz)).1
  have e2:=zJz (F.take (j+1)) x.Factors (sy.sublist (List.take_sublist _ _)) (fun z hz=>(ex z hz).1) fun z hz=>(ey z (List.mem_of_mem_take hz)).1
  rw [← e1, ← e2,ziM hj,List.foldl_append]; rfl
 have:=zdt (W:=zo0) (z:=default) F.length (fun j=>(a,b,(),i,(k:Int),(),(j:Int),())) (fun j=>(out,(c,zbN x.Factors (F.take j),()),())) (fun _=>true) default (a,b,i,(k:Int),out,c,zbN x.Factors F)
  (fun j hj H K D=>by
   show (zlZ a b i k j out c (zbN x.Factors (F.take j))).ev H K D=_
   unfold zlZ
   have hlen:=zEJ x.Factors (F.take j)
   rw [List.length_take] at hlen
   have hex:=fun z (hz:z∈zbN x.Factors (F.take j))=>zDC (B:=64) (fun z hz=>⟨(gx.2.2 z hz).2.1,(ex z hz).2⟩) (fun z hz=>⟨(gy z (List.mem_of_mem_take hz)).2.1,(ey z (List.mem_of_mem_take hz)).2⟩) hz
   have hfine:∀ z∈zbN x.Factors (F.take j),zcJ (zq 9) z.Atom:=fun z hz=>by
    obtain ⟨w,hw,e⟩:=zqA hz
    rw [e]
    rcases hw with hw | hw
    ·exact zqm (gx.2.2 w hw).1.1 (gx.2.2 w hw).1.2.2
    ·exact zqm (gy w (List.mem_of_mem_take hw)).1.1 (gy w (List.mem_of_mem_take hw)).1.2.2
   have hm:=zx hj
   have e1:decide ((k:Int)<Int.ofNat b.length)=true:=by simp [hk]
   have e2:decide ((j:Int)<Int.ofNat F.length)=true:=by simp [hj]
   have efx:(FactorOf.mk (F.getD j default).Atom (F.getD j default).Exp:Factor)=F.getD j default:=rfl
   simp only [Atom.eta,Wy.ev_i,Wy.ev_k,Wy.ev_h,Wy.ev_bn,Wy.ev_d,zem,Bool.and_self,cond_true,Int.toNat_natCast,hF,e1,e2,efx]
   rw [zYz (d:=9) _ _ (by omega) hfine (by omega) (fun z hz=>by have:=hex z hz; omega) (by have:=(gy _ hm).2; omega),cond_true,zT (by omega),key j hj])
  (fun H K D=>by
   show (zlZ a b i k F.length out c (zbN x.Factors (F.take F.length))).ev H K D=_
   unfold zlZ
   have e1:decide ((k:Int)<Int.ofNat b.length)=true:=by simp [hk]
   have e2:decide ((F.length:Int)<Int.ofNat F.length)=false:=by simp
   simp only [Wy.ev_i,Wy.ev_k,zem,Bool.and_self,cond_true,cond_false,Int.toNat_natCast,hF,e1,e2,List.take_length]) n hn
 rw [show allN (fun _=>true) F.length 0=true from zea.2 fun _ _ _=>rfl] at this
 simp only [List.take_zero,zGz] at this
 exact this
theorem zYC (a b:List Term) (i:Nat) (hi:i<a.length) (hal:a.length≤512) (hbl:b.length≤512) (hx:VT (a.getD i default)) (hb:∀ t∈b,VT t) (out:List Term) (ho:out.length≤i*512) (hs:Srs out) (hg:∀ t∈out,GT t) (n:Nat) (hn:b.length<n):
  zEe n a b i 0 out=(true,(a,b,(i:Int),sumA out (b.map (zlt (a.getD i default))))):=by
 have:=zcx (W:=zqE) (z:=default) (l:=b) (fun k (o:List Term)=>(a,b,(),(i:Int),(k:Int),())) (fun _ o=>(o,())) (fun y o=>.inl (putA (zlt (a.getD i default) y) o)) (fun o=>(a,b,(i:Int),o)) (fun k o=>(o.length≤i*512+k∧Srs o)∧∀ t∈o,GT t)
  (fun k o hk hI=>.inl ⟨_,rfl,⟨⟨by have:=zMT (t:=zlt (a.getD i default) (b.getD k default)) o; omega,zzh hI.1.2⟩,zTe (zII hx (hb _ (zx hk))) hI.1.2 hI.2⟩,fun H K D=>by
   show (zm6 a b i k o).ev H K D=_
   unfold zm6
   have hy:=hb _ (zx hk)
   have hsz:=szTs_get' b k hk
   simp only [Wy.ev_i,Wy.ev_k,Wy.ev_h,Wy.ev_bn,Wy.ev_d,tT,hk,hi,(zSX hx.1.1 hy.1.1).2]
   rw [zXn a b i k hk o _ _ hx hy _ (by omega)]
   simp only [cond_true]
   have e:(TermOf.mk (zw7 (a.getD i default).Coeff (b.getD k default).Coeff) (zbN (a.getD i default).Factors (b.getD k default).Factors):Term)=zlt (a.getD i default) (b.getD k default):=rfl
   have hg:=zII hx hy
   rw [e,zUJ (d:=9) o _ (by omega) (fun z hz=>(hI.2 z hz).fine) (by omega) (fun z hz=>(hI.2 z hz).1) hg.1]
   simp only [cond_true]
   rw [zT (by omega)]⟩)
  (fun o hI H K D=>by
   show (zm6 a b i b.length o).ev H K D=_
   unfold zm6
   simp only [Wy.ev_i,Wy.ev_k,tT,Nat.lt_irrefl]) n 0 out (by omega) (by omega) (show (out.length≤i*512+0∧Srs out)∧∀ t∈out,GT t from ⟨⟨Nat.le_trans ho (Nat.le_add_right _ _),hs⟩,hg⟩)
 rw [List.drop_zero,zcw] at this
 have e:∀ (l:List Term) (o:List Term),l.foldl (fun s t=>putA (zlt (a.getD i default) t) s) o=sumA o (l.map (zlt (a.getD i default))):=fun l=>by
  induction l with
  | nil=>intro o; rfl
  | cons y r ih=>intro o; rw [List.foldl_cons,ih]; rfl
 rw [e] at this
 exact this
theorem zTX (o:List Term) (b:List Term) (x:Term):(sumA o (b.map (zlt x))).length≤o.length+b.length:=by
 have:=zDs (b.map (zlt x)) o
 rwa [List.length_map] at this
theorem zWU (a b:List Term) (ha:∀ t∈a,VT t) (hb:∀ t∈b,VT t) (hal:a.length≤512) (hbl:b.length≤512):zqW a b=(true,zIQ a b):=by
 unfold zqW zw1
 have:=zcx (W:=zqs) (z:=default) (l:=a) (fun i (o:List Term)=>(a,b,(),(i:Int),())) (fun _ o=>(o,())) (fun x o=>.inl (sumA o (b.map (zlt x)))) (fun o=>o) (fun i o=>(o.length≤i*512∧Srs o)∧∀ t∈o,GT t)
  (fun i o hi hI=>.inl ⟨_,rfl,⟨⟨by have:=zTX o b (a.getD i default); omega,zQA _ _ hI.1.2⟩,zHi _ _ hI.1.2 hI.2 fun t ht=>by
    obtain ⟨y,hy,rfl⟩:=List.mem_map.1 ht
    exact zII (ha _ (zx hi)) (hb y hy)⟩,fun H K D=>by
   show (zmU a b i o).ev H K D=_
   unfold zmU
   have e1:decide ((i:Int)<Int.ofNat a.length)=true:=by simp [hi]
   simp only [Wy.ev_i,Wy.ev_k,Wy.ev_h,Wy.ev_bn,Wy.ev_d,e1,cond_true]
   rw [zYC a b i hi hal hbl (ha _ (zx hi)) hb o hI.1.1 hI.1.2 hI.2 _ (by omega)]
   simp only [cond_true]
   rw [zT (by omega)]⟩)
  (fun o hI H K D=>by
   show (zmU a b a.length o).ev H K D=_
   unfold zmU
   have e1:decide ((a.length:Int)<Int.ofNat a.length)=false:=by simp
   simp only [Wy.ev_i,Wy.ev_k,e1,cond_false]) ((a.length+b.length+Int.toNat (0:Int)+(0:Nat)+(1:Nat))+szTs a+szTs b+szTs []) 0 [] (by omega) (by omega) ⟨⟨by simp,.nil⟩,fun t ht=>by cases ht⟩
 rw [List.drop_zero,zcw] at this
 have e:∀ (l:List Term) (o:List Term),l.foldl (fun s x=>sumA s (b.map (zlt x))) o=sumA o (zfg l b):=fun l=>by
  induction l with
  | nil=>intro o; rfl
  | cons y r ih=>
   intro o
   rw [List.foldl_cons,ih]
   show _=(zfg (y::r) b).foldl (fun a t=>putA t a) o
   unfold zfg
   rw [List.flatMap_cons,List.foldl_append]; rfl
 rw [e] at this
 have this:zEv ((a.length+b.length+Int.toNat (0:Int)+(0:Nat)+(1:Nat))+szTs a+szTs b+szTs []) a b 0 []=(true,zIQ a b):=this
 rw [Wy.fin_bn,this]; rfl
theorem zYm (a b:List Term) (ha:∀ t∈a,GT t) (hb:∀ t∈b,GT t) (hs:Srs a) (hal:a.length≤512) (hbl:b.length≤512):zAI a b=(true,sumA a b):=by
 unfold zAI zGC
 have:=zcx (W:=zxp) (z:=default) (l:=b) (fun i (o:List Term)=>(o,b,(i:Int),())) (fun _ o=>()) (fun x o=>.inl (putA x o)) (fun o=>o) (fun i o=>(o.length≤512+i∧Srs o)∧∀ t∈o,GT t)
  (fun i o hi hI=>.inl ⟨_,rfl,⟨⟨by have:=zMT (t:=b.getD i default) o; omega,zzh hI.1.2⟩,zTe (hb _ (zx hi)) hI.1.2 hI.2⟩,fun H K D=>by
   show (zs6 o b i).ev H K D=_
   unfold zs6
   simp only [Wy.ev_i,Wy.ev_k,Wy.ev_h,Wy.ev_bn,Wy.ev_d,tT,hi]
   rw [zUJ (d:=9) o _ (by omega) (fun z hz=>(hI.2 z hz).fine) (by omega) (fun z hz=>(hI.2 z hz).1) (hb _ (zx hi)).1,cond_true,zT (by omega)]⟩)
  (fun o hI H K D=>by
   show (zs6 o b b.length).ev H K D=_
   unfold zs6
   simp only [Wy.ev_i,Wy.ev_k,tT,Nat.lt_irrefl]) (a.length+b.length+Int.toNat (0:Int)+(1:Nat)) 0 a (by omega) (by omega) ⟨⟨by omega,hs⟩,ha⟩
 rw [List.drop_zero,zcw] at this
 have this:zLl (a.length+b.length+Int.toNat (0:Int)+(1:Nat)) a b 0=(true,sumA a b):=this
 rw [Wy.fin_bn,this]; rfl
def okA (a:List Term):Prop:=(zq 12 a∧zP a≤4611686018427387904)∧zfs a∧a.length≤roomLen
def opR (ok:Bool) (r:List Term×Int):List Term×Int:=bif ok then r else ([],1)
def addR (a b:List Term):List Term×Int:=opR (zbB a&&zbB b) (fitR (sumA a b))
def mulR (a b:List Term):List Term×Int:=opR (zbB a&&zbB b) (fitR (zIQ a b))
def monA (a b:List Term):Atom:=⟨1,⟨0,0⟩,[a,b],0,[],0,⟨0,0,ByteArray.mk #[]⟩⟩
def delA (a:List Term):Atom:=⟨2,⟨0,0⟩,[a],0,[],0,⟨0,0,ByteArray.mk #[]⟩⟩
def absA (a:List Term):Atom:=⟨3,⟨0,0⟩,[a],0,[],0,⟨0,0,ByteArray.mk #[]⟩⟩
def monR (a b:List Term):List Term×Int:=opR (zbB a&&zbB b) (if b=[] then (a,0) else if a=[]∨a=b then ([],0) else fitR (oneA (monA a b)))
def delR (a:List Term):List Term×Int:=opR (zbB a) (if a=[]∨isU a=true then (a,0) else if isC a=true then ([⟨1,[]⟩],0) else fitR (oneA (delA a)))
def absR (a:List Term):List Term×Int:=opR (zbB a) (if a=[] then ([⟨1,[]⟩],0) else if hasC a=true then ([],0) else fitR (oneA (absA a)))
theorem okA.valid {a:List Term} (h:okA a):zci a=(true,zbB a):=zQ1 h.1.1 (by omega) h.1.2
theorem okA.rvalid {a:List Term} (h:okA a):zeL a=(true,zbB a):=zPG h.1.1 (by omega) h.1.2
theorem zWq {a b:List Term} (ha:okA a) (hb:okA b):zpr a b=(true,addR a b)∧zBh a b=(true,addR a b):=by
 unfold zpr zvS zBh zGP addR
 simp only [Wy.fin_bn,Wy.fin_i,Wy.fin_k,ha.valid,hb.valid,ha.rvalid,hb.rvalid,cond_true]
 cases va:zbB a with
 | false=>first | exact ⟨trivial,trivial⟩ | exact ⟨rfl,rfl⟩ | exact ⟨trivial,rfl⟩ | exact ⟨rfl,trivial⟩
 | true=>
  cases vb:zbB b with
  | false=>first | exact ⟨trivial,trivial⟩ | exact ⟨rfl,rfl⟩ | exact ⟨trivial,rfl⟩ | exact ⟨rfl,trivial⟩
  | true=>
   obtain ⟨sa,la,ta⟩:=zsK va ha.2.1
   obtain ⟨sb,lb,tb⟩:=zsK vb hb.2.1
   have ga:∀ t∈a,GT t:=fun t ht=>(ta t ht).1
   have gb:∀ t∈b,GT t:=fun t ht=>(tb t ht).1
   have hc:=zXd [a,b] (by simp) (fun l hl=>by
    simp only [List.mem_cons,List.not_mem_nil,or_false] at hl
    rcases hl with rfl | rfl <;>omega)
   have e:[a,b].flatten=a++b:=by simp
   have hcol:=zOB (a++b) (by simp; omega) fun t ht=>by
    rcases List.mem_append.1 ht with ht | ht
    ·exact ga t ht
    ·exact gb t ht
   rw [e] at hc
   rw [zYN a b sa] at hcol
   have hsl:(sumA a b).length≤1000000:=by have:=zDs b a; omega
   obtain ⟨f1,f2⟩:=zSD hsl (zHi b a sa ga gb)
   simp only [Bool.not_true,cond_false,Bool.and_self,hc,hcol,ztP f1 (by omega:10≤100) f2,zYm a b ga gb sa la lb,zIi f1 (by omega:10≤100) f2,cond_true]
   first | exact ⟨trivial,trivial⟩ | exact ⟨rfl,rfl⟩ | exact ⟨trivial,rfl⟩ | exact ⟨rfl,trivial⟩
theorem zV1 {a b:List Term} (ha:okA a) (hb:okA b):zo9 a b=(true,mulR a b)∧zBo a b=(true,mulR a b):=by
 unfold zo9 zvM zBo zHd mulR
 simp only [Wy.fin_bn,Wy.fin_i,Wy.fin_k,ha.valid,hb.valid,ha.rvalid,hb.rvalid,cond_true]
 cases va:zbB a with
 | false=>first | exact ⟨trivial,trivial⟩ | exact ⟨rfl,rfl⟩ | exact ⟨trivial,rfl⟩ | exact ⟨rfl,trivial⟩
 | true=>
  cases vb:zbB b with
  | false=>first | exact ⟨trivial,trivial⟩ | exact ⟨rfl,rfl⟩ | exact ⟨trivial,rfl⟩ | exact ⟨rfl,trivial⟩
  | true=>
   obtain ⟨sa,la,ta⟩:=zsK va ha.2.1
   obtain ⟨sb,lb,tb⟩:=zsK vb hb.2.1
   have hm:=zZM a b ta tb la lb (b.length+a.length+(Int.ofNat a.length).toNat +Int.toNat (0:Int)+(0:Nat)+(1:Nat)) (by omega)
   have hm:zuw (b.length+a.length+(Int.ofNat a.length).toNat +Int.toNat (0:Int)+(0:Nat)+(1:Nat)) b a (Int.ofNat a.length) 0 []=_:=hm
   have hpl:(zfg a b).length≤1000000:=by rw [zMh]; have:=Nat.mul_le_mul la lb; omega
   have hcol:=zOB (zfg a b) hpl (zOi ta tb)
   have hsl:(zIQ a b).length≤1000000:=by have:=zDs (zfg a b) []; simp at this; exact Nat.le_trans this hpl
   obtain ⟨f1,f2⟩:=zSD hsl (zHi (zfg a b) [] .nil (fun t ht=>by cases ht) (zOi ta tb))
   have f1:zq 10 (zIQ a b):=f1
   have f2:zP (zIQ a b)≤4611686018427387904:=f2
   have hcol:zgO (zfg a b)=(true,zIQ a b):=hcol
   simp only [Bool.not_true,cond_false,Bool.and_self,hm,hcol,ztP f1 (by omega:10≤100) f2,zWU a b ta tb la lb,zIi f1 (by omega:10≤100) f2,cond_true]
   first | exact ⟨trivial,trivial⟩ | exact ⟨rfl,rfl⟩ | exact ⟨trivial,rfl⟩ | exact ⟨rfl,trivial⟩
theorem zIP {l:List (List Term)} {k:Int} (hl:l.length≤2) (h:∀ a∈l,zbB a=true):zq 10 (oneA ⟨k,⟨0,0⟩,l,0,[],0,⟨0,0,ByteArray.mk #[]⟩⟩)∧zP (oneA ⟨k,⟨0,0⟩,l,0,[],0,⟨0,0,ByteArray.mk #[]⟩⟩)≤4611686018427387904:=by
 constructor
 ·exact zLw ⟨⟨by simp only; omega,by simp,by show (ByteArray.mk #[]).size≤_; decide⟩,fun a ha=>(zeH (h a ha)).1,fun w hw=>(by cases hw)⟩
 ·rw [zOw,zf8]
  have hb:∀ l:List (List Term),(∀ a∈l,zbB a=true)→zel l≤l.length*4096:=fun l=>by
   induction l with
   | nil=>intro _; rw [zfx]; simp
   | cons a r ih=>
    intro h
    have h1:=(zeH (h a (by simp))).2.1
    have h2:=ih fun b hb=>h b (by simp [hb])
    rw [zef,List.length_cons,Nat.add_mul]; omega
  have:=hb l h
  show 2+(zel l+zcI [])≤_
  rw [zeF]
  have:=Nat.mul_le_mul hl (Nat.le_refl 4096)
  omega
theorem zP9 (a:List Term):(Int.ofNat a.length==(0:Int))=decide (a=[]):=by
 rw [show (Int.ofNat a.length==(0:Int))=(a.length==0) from zqz _ 0,beqn]
 congr 1
 rw [List.length_eq_zero_iff]
theorem zSR {a b:List Term} (ha:okA a) (hb:okA b):zm3 a b=(true,monR a b)∧zvk a b=(true,monR a b):=by
 unfold zm3 ztb zvk zBZ monR
 simp only [Wy.fin_bn,Wy.fin_i,Wy.fin_k,ha.valid,hb.valid,ha.rvalid,hb.rvalid,cond_true]
 cases va:zbB a with
 | false=>first | exact ⟨trivial,trivial⟩ | exact ⟨rfl,rfl⟩ | exact ⟨trivial,rfl⟩ | exact ⟨rfl,trivial⟩
 | true=>
  cases vb:zbB b with
  | false=>first | exact ⟨trivial,trivial⟩ | exact ⟨rfl,rfl⟩ | exact ⟨trivial,rfl⟩ | exact ⟨rfl,trivial⟩
  | true=>
   obtain ⟨f1,f2⟩:=zIP (l:=[a,b]) (k:=1) (by simp) (fun x hx=>by
    simp only [List.mem_cons,List.not_mem_nil,or_false] at hx
    rcases hx with rfl | rfl
    ·exact va
    ·exact vb)
   simp only [Bool.not_true,cond_false,Bool.and_self,zP9,zA6 ha.1.1 (by omega:12≤100),zyz ha.1.1 (by omega:12≤100),zBD ha.1.1 (by omega:12≤100),zAo,zHu,ztP f1 (by omega:10≤100) f2,zIi f1 (by omega:10≤100) f2,cond_true,opR]
   by_cases hb0:b=[]
   ·simp only [hb0,decide_true,cond_true,if_true]; exact ⟨trivial,trivial⟩
   ·by_cases ha0:a=[]
    ·simp only [hb0,ha0,decide_true,decide_false,cond_true,cond_false,if_true,if_false,true_or]; exact ⟨trivial,trivial⟩
    ·by_cases hab:a=b
     ·simp only [hb0,ha0,hab,decide_true,decide_false,cond_true,cond_false,if_true,if_false,or_true]; exact ⟨trivial,trivial⟩
     ·simp only [hb0,ha0,hab,decide_false,cond_false,if_false,or_self]; first | exact ⟨trivial,trivial⟩ | exact ⟨rfl,rfl⟩ | exact ⟨trivial,rfl⟩ | exact ⟨rfl,trivial⟩
theorem zTu {a:List Term} (ha:okA a):zno a=(true,delR a)∧zu2 a=(true,delR a):=by
 unfold zno zso zu2 zB2 delR
 simp only [Wy.fin_bn,Wy.fin_i,Wy.fin_k,ha.valid,ha.rvalid,cond_true]
 cases va:zbB a with
 | false=>first | exact ⟨trivial,trivial⟩ | exact ⟨rfl,rfl⟩ | exact ⟨trivial,rfl⟩ | exact ⟨rfl,trivial⟩
 | true=>
  obtain ⟨f1,f2⟩:=zIP (l:=[a]) (k:=2) (by simp) (fun x hx=>by rw [List.mem_singleton] at hx; subst hx; exact va)
  have hla:a.length≤1000000000:=by have:=(zeH va).2.2; omega
  have hbu:isB a=isU a:=zL3 va
  simp only [Bool.not_true,cond_false,zP9,zA6 ha.1.1 (by omega:12≤100),zRu,zKj,zF3,zuC a hla,zAo,zHu,ztP f1 (by omega:10≤100) f2,zIi f1 (by omega:10≤100) f2,cond_true,opR,hbu]
  rw [show fitR (oneA ⟨2,⟨0,0⟩,[a],0,[],0,⟨0,0,ByteArray.mk #[]⟩⟩)=fitR (oneA (delA a)) from rfl]
  clear f1 f2
  generalize fitR (oneA (delA a))=R
  by_cases h0:a=[]
  ·simp only [h0,decide_true,cond_true,if_true,true_or]; exact ⟨trivial,trivial⟩
  ·cases hu:isU a with
   | true=>simp only [h0,decide_false,cond_false,cond_true,if_true,or_true]; exact ⟨trivial,trivial⟩
   | false=>
    simp only [h0,decide_false,cond_false,if_false,or_self,Bool.false_eq_true]
    match a,h0 with
    | [t],_=>
     have e1:hasC [t]=(t.Factors.length==0):=by simp [hasC]
     have e2:isC [t]=(t.Factors.length==0):=rfl
     rw [e1,e2]
     cases (t.Factors.length==0) with
     | true=>simp only [cond_true,if_true]; first | exact ⟨trivial,trivial⟩ | exact ⟨rfl,rfl⟩ | exact ⟨trivial,rfl⟩ | exact ⟨rfl,trivial⟩
     | false=>simp only [cond_false,cond_true,Bool.false_eq_true,if_false]; first | exact ⟨trivial,trivial⟩ | exact ⟨rfl,rfl⟩ | exact ⟨trivial,rfl⟩ | exact ⟨rfl,trivial⟩
    | t::s::r,_=>
     have e2:isC (t::s::r)=false:=rfl
     simp only [len2,e2,cond_false,cond_true,Bool.false_eq_true,if_false]
     first | exact ⟨trivial,trivial⟩ | exact ⟨rfl,rfl⟩ | exact ⟨trivial,rfl⟩ | exact ⟨rfl,trivial⟩
theorem zQR {a:List Term} (ha:okA a):zlY a=(true,absR a)∧zsq a=(true,absR a):=by
 unfold zlY zrw zsq zzk absR
 simp only [Wy.fin_bn,Wy.fin_i,Wy.fin_k,ha.valid,ha.rvalid,cond_true]
 cases va:zbB a with
 | false=>first | exact ⟨trivial,trivial⟩ | exact ⟨rfl,rfl⟩ | exact ⟨trivial,rfl⟩ | exact ⟨rfl,trivial⟩
 | true=>
  obtain ⟨f1,f2⟩:=zIP (l:=[a]) (k:=3) (by simp) (fun x hx=>by rw [List.mem_singleton] at hx; subst hx; exact va)
  have hla:a.length≤1000000000:=by have:=(zeH va).2.2; omega
  simp only [Bool.not_true,cond_false,zP9,zIz a hla,zuC a hla,zAo,zHu,ztP f1 (by omega:10≤100) f2,zIi f1 (by omega:10≤100) f2,cond_true,opR]
  by_cases h0:a=[]
  ·simp only [h0,decide_true,cond_true,if_true]; first | exact ⟨trivial,trivial⟩ | exact ⟨rfl,rfl⟩ | exact ⟨trivial,rfl⟩ | exact ⟨rfl,trivial⟩
  ·cases hu:hasC a with
   | true=>simp only [h0,decide_false,cond_false,cond_true,if_true,if_false]; exact ⟨trivial,trivial⟩
   | false=>simp only [h0,decide_false,cond_false,if_false,Bool.false_eq_true]; first | exact ⟨trivial,trivial⟩ | exact ⟨rfl,rfl⟩ | exact ⟨trivial,rfl⟩ | exact ⟨rfl,trivial⟩
theorem zMr {n:Int} (h:rng n):wf3 n:=by
 show (Lit.int .i64 n).wf=true
 have:IntKind.i64.min≤n∧n≤IntKind.i64.max:=⟨h.1,h.2⟩
 simpa [Lit.wf] using this
theorem zL6 {t:Term} (hc:rng t.Coeff) (hf:∀ f∈t.Factors,zfr f.Atom∧rng f.Exp) (hl:t.Factors.length≤1000000):zvy t:=by
 obtain ⟨c,fs⟩:=t
 unfold zvy
 refine ⟨zMr hc,zEI fs fun f h=> ?_,by have:roomLen=140737488351232:=rfl; simp only at hl; omega⟩
 obtain ⟨x,e⟩:=f
 unfold zqH
 exact ⟨(hf _ h).1,zMr (hf _ h).2⟩
def okR (r:List Term×Int):Prop:=okA r.1∧(r.2=0∨r.1=[])
theorem ziQ:okA []:=⟨⟨zWG 11,by rw [zxL]; omega⟩,by unfold zfs; trivial,by simp⟩
theorem zDt {a:List Term} (h:okA a):okR (fitR a):=by
 unfold fitR
 cases zmy a with
 | true=>exact ⟨h,.inl rfl⟩
 | false=>exact ⟨ziQ,.inr rfl⟩
theorem zHz {ok:Bool} {r:List Term×Int} (h:ok=true→okR r):okR (opR ok r):=by
 unfold opR
 cases ok with
 | true=>exact h rfl
 | false=>exact ⟨ziQ,.inr rfl⟩
theorem zQN {l:List Term} (hl:l.length≤1000000) (h:∀ t∈l,GT t):okA l:=by
 obtain ⟨h1,h2⟩:=zSD hl h
 refine ⟨⟨h1.mono (by omega),h2⟩,zzP l fun t ht=> ?_,by have:roomLen=140737488351232:=rfl; omega⟩
 have hg:=h t ht
 exact zL6 ⟨by have:=hg.1.1; omega,by have:=hg.1.2; omega⟩ (fun f hf=>⟨(hg.2.2 f hf).1.2.1,(hg.2.2 f hf).gF.2.2⟩) (by have:=hg.2.1; omega)
theorem zP0 {a b:List Term} (ha:okA a) (hb:okA b):okR (addR a b):=zHz fun hv=>by
 rw [Bool.and_eq_true] at hv
 obtain ⟨sa,la,ta⟩:=zsK hv.1 ha.2.1
 obtain ⟨sb,lb,tb⟩:=zsK hv.2 hb.2.1
 exact zDt (zQN (by have:=zDs b a; omega) (zHi b a sa (fun t ht=>(ta t ht).1) fun t ht=>(tb t ht).1))
theorem zQm {a b:List Term} (ha:okA a) (hb:okA b):okR (mulR a b):=zHz fun hv=>by
 rw [Bool.and_eq_true] at hv
 obtain ⟨sa,la,ta⟩:=zsK hv.1 ha.2.1
 obtain ⟨sb,lb,tb⟩:=zsK hv.2 hb.2.1
 have hpl:(zfg a b).length≤1000000:=by rw [zMh]; have:=Nat.mul_le_mul la lb; omega
 exact zDt (zQN (by have:=zDs (zfg a b) []; simp at this; exact Nat.le_trans this hpl) (zHi (zfg a b) [] .nil (fun t ht=>by cases ht) (zOi ta tb)))
theorem zTC {x:Atom} (hf:zcJ (zq 9) x) (hs:zP (oneA x)≤4611686018427387904) (hw:zfr x):okA (oneA x):=by
 refine ⟨⟨(zLw hf).mono (by omega),hs⟩,zzP _ fun t ht=> ?_,by simp [oneA,roomLen]⟩
 simp only [oneA,List.mem_singleton] at ht
 subst ht
 refine zL6 ⟨by simp,by simp⟩ (fun f hf=> ?_) (by simp)
 simp only [List.mem_singleton] at hf
 subst hf
 exact ⟨hw,⟨by simp,by simp⟩⟩
theorem zK7 {n:Int} (h: -1000≤n∧n≤1000):rng n:=⟨by omega,by omega⟩
theorem zmH:wf3 0:=zMr (zK7 (by omega))
theorem zLE {l:List (List Term)} {k:Int} (hk:0≤k∧k≤4) (hl:l.length≤2) (h:∀ a∈l,zbB a=true) (hw:∀ a∈l,okA a):okA (oneA ⟨k,⟨0,0⟩,l,0,[],0,⟨0,0,ByteArray.mk #[]⟩⟩):=by
 refine zTC ⟨⟨by simp only; omega,by simp,by show (ByteArray.mk #[]).size≤_; decide⟩,fun a ha=>(zeH (h a ha)).1,fun w hw=>(by cases hw)⟩ (zIP hl h).2 ?_
 unfold zfr
 have hr:roomLen=140737488351232:=rfl
 refine ⟨zMr (zK7 (by omega)),⟨zmH,zmH⟩,⟨zLg l fun a ha=>⟨(hw a ha).2.1,(hw a ha).2.2⟩,by omega⟩,zmH,⟨by unfold zn0; trivial,by simp⟩,zmH,⟨zmH,zmH, ?_⟩⟩
 show (ByteArray.mk #[]).size≤roomLen
 rw [hr]; decide
theorem zP7 {a b:List Term} (ha:okA a) (hb:okA b):okR (monR a b):=zHz fun hv=>by
 rw [Bool.and_eq_true] at hv
 split
 ·exact ⟨ha,.inl rfl⟩
 ·split
  ·exact ⟨ziQ,.inl rfl⟩
  ·refine zDt (zLE (by omega) (by simp) (fun x hx=> ?_) fun x hx=> ?_)
   ·simp only [List.mem_cons,List.not_mem_nil,or_false] at hx
    rcases hx with rfl | rfl
    ·exact hv.1
    ·exact hv.2
   ·simp only [List.mem_cons,List.not_mem_nil,or_false] at hx
    rcases hx with rfl | rfl
    ·exact ha
    ·exact hb
theorem zMK (c:Int) (hc:1≤c∧c≤1152921504606846976):okA [⟨c,[]⟩]:=zQN (by simp) fun t ht=>by
 rw [List.mem_singleton] at ht; subst ht
 exact ⟨hc,by simp,fun f hf=>by cases hf⟩
theorem zQz {a:List Term} (ha:okA a):okR (delR a):=zHz fun hv=>by
 split
 ·exact ⟨ha,.inl rfl⟩
 ·split
  ·exact ⟨zMK 1 (by omega),.inl rfl⟩
  ·exact zDt (zLE (by omega) (by simp) (fun x hx=>by rw [List.mem_singleton] at hx; subst hx; exact hv) fun x hx=>by rw [List.mem_singleton] at hx; subst hx; exact ha)
theorem zP4 {a:List Term} (ha:okA a):okR (absR a):=zHz fun hv=>by
 split
 ·exact ⟨zMK 1 (by omega),.inl rfl⟩
 ·split
  ·exact ⟨ziQ,.inl rfl⟩
  ·exact zDt (zLE (by omega) (by simp) (fun x hx=>by rw [List.mem_singleton] at hx; subst hx; exact hv) fun x hx=>by rw [List.mem_singleton] at hx; subst hx; exact ha)
def cstA (n:Int):List Term:=if n<1 then [] else [⟨if 1152921504606846976<n then 1152921504606846976 else n,[]⟩]
def varA (id:RowID):List Term:=bif ztR id then oneA ⟨0,id,[],0,[],0,⟨0,0,ByteArray.mk #[]⟩⟩ else []
theorem zS0 (n:Int):znn n=(true,cstA n)∧zvl n=(true,cstA n):=by
 unfold znn zsP zvl zBG cstA
 by_cases h:n<1
 ·simp only [Wy.fin_i,Wy.fin_k,h,decide_true,cond_true,if_true]; exact ⟨trivial,trivial⟩
 ·simp only [Wy.fin_i,Wy.fin_k,h,decide_false,cond_false,if_false]; exact ⟨trivial,trivial⟩
theorem zVV (id:RowID):zpG id=(true,varA id)∧zz4 id=(true,varA id):=by
 unfold zpG zvN zz4 zG9 varA ztR
 simp only [Wy.fin_i,Wy.fin_bn,Wy.fin_k,zxD,zAo,zHu,cond_true]
 unfold ztR
 have e1:decide (id.Table<1)= !decide (id.Table≥1):=by
  by_cases h:id.Table<1
  ·have:¬ id.Table≥1:=by omega
   simp only [h,this,decide_true,decide_false,Bool.not_false]
  ·have:id.Table≥1:=by omega
   simp only [h,this,decide_true,decide_false,Bool.not_true]
 have e2:decide (id.Seq<1)= !decide (id.Seq≥1):=by
  by_cases h:id.Seq<1
  ·have:¬ id.Seq≥1:=by omega
   simp only [h,this,decide_true,decide_false,Bool.not_false]
  ·have:id.Seq≥1:=by omega
   simp only [h,this,decide_true,decide_false,Bool.not_true]
 rw [e1,e2]
 cases decide (id.Table≥1) <;>cases decide (id.Seq≥1) <;>exact ⟨rfl,rfl⟩
theorem zSy (n:Int):okA (cstA n):=by
 unfold cstA
 split
 ·exact ziQ
 ·refine zMK _ ?_
  split <;>omega
theorem zZm {id:RowID} (h:wf25 id):okA (varA id):=by
 unfold varA
 cases hr:ztR id with
 | false=>exact ziQ
 | true=>
  refine zTC ⟨⟨by simp,by simp,by show (ByteArray.mk #[]).size≤_; decide⟩,fun a ha=>(by cases ha),fun w hw=>(by cases hw)⟩ (by rw [zOw,zf8,zfx,zeF]; omega) ?_
  unfold zfr
  refine ⟨zmH,h,⟨by unfold zrh; trivial,by simp⟩,zmH,⟨by unfold zn0; trivial,by simp⟩,zmH,⟨zmH,zmH, ?_⟩⟩
  show (ByteArray.mk #[]).size≤roomLen
  have hr:roomLen=140737488351232:=rfl
  rw [hr]; decide
theorem okR.same {r:List Term×Int} (h:okR r):ztD r.1 r.2 r.1 r.2=(true,true):=zYj h.1.1.1 (by omega) h.2
theorem zUC {a:List Term} {n:Nat} (hn:n≤1000) (h:zq 12 a∧zd8 a≤n) (hw:wf23 a):okA a:=⟨⟨h.1,by have:=zDd a; omega⟩,hw.1,hw.2⟩
def MF (l:List Factor):Prop:=Srf l∧∀ f∈l,eOK f∧1≤f.Exp
theorem MF.tail {f:Factor} {l:List Factor} (h:MF (f::l)):MF l:=⟨(List.pairwise_cons.1 h.1).2,fun g hg=>h.2 g (by simp [hg])⟩
theorem MF.nil:MF []:=⟨List.Pairwise.nil,fun f hf=>by cases hf⟩
theorem cF_self' {x y:Factor} (h:x.Atom=y.Atom):cF x y=0:=by unfold cF; rw [h]; exact zLv _
theorem MF.ne {f:Factor} {l:List Factor} (h:MF (f::l)):∀ g∈l,g.Atom≠f.Atom:=fun g hg e=>by
 have:=(List.pairwise_cons.1 h.1).1 g hg
 rw [cF_self' e.symm] at this; omega
theorem zWN {a b:List Factor}:Srf a→Srf b→Srf (zbN a b):=by
 induction a,b using zbN.induct with
 | case1 b=>intro _ hb; rw [zbN]; exact hb
 | case2 x a=>intro ha _; rw [zbN]; exact ha
 | case3 x a y b h ih=>
  intro ha hb
  have ca:=List.pairwise_cons.1 ha
  rw [zbN,if_pos h]
  refine List.pairwise_cons.2 ⟨fun z hz=> ?_,ih ca.2 hb⟩
  obtain ⟨w,hw,e⟩:=zqA hz
  have:cF x z=cF x w:=by unfold cF; rw [e]
  rw [this]
  rcases hw with hw | hw
  ·exact ca.1 w hw
  ·rcases List.mem_cons.1 hw with rfl | hw
   ·exact h
   ·exact zze h ((List.pairwise_cons.1 hb).1 w hw)
 | case4 x a y b h h2 ih=>
  intro ha hb
  have cb:=List.pairwise_cons.1 hb
  rw [zbN,if_neg h,if_pos h2]
  have h3:cF y x<0:=by rw [zX3 x y]; omega
  refine List.pairwise_cons.2 ⟨fun z hz=> ?_,ih ha cb.2⟩
  obtain ⟨w,hw,e⟩:=zqA hz
  have:cF y z=cF y w:=by unfold cF; rw [e]
  rw [this]
  rcases hw with hw | hw
  ·rcases List.mem_cons.1 hw with rfl | hw
   ·exact h3
   ·exact zze h3 ((List.pairwise_cons.1 ha).1 w hw)
  ·exact cb.1 w hw
 | case5 x a y b h h2 ih=>
  intro ha hb
  have ca:=List.pairwise_cons.1 ha
  have cb:=List.pairwise_cons.1 hb
  have h0:x.Atom=y.Atom:=zT3 (by omega)
  rw [zbN,if_neg h,if_neg h2]
  have hA:(if x.Atom.Kind=3∨x.Atom.Kind=4 then x else ⟨x.Atom,x.Exp+y.Exp⟩:Factor).Atom=x.Atom:=by split <;>rfl
  refine List.pairwise_cons.2 ⟨fun z hz=> ?_,ih ca.2 cb.2⟩
  obtain ⟨w,hw,e⟩:=zqA hz
  have:cF (if x.Atom.Kind=3∨x.Atom.Kind=4 then x else ⟨x.Atom,x.Exp+y.Exp⟩:Factor) z=cF x w:=by unfold cF; rw [e,hA]
  rw [this]
  rcases hw with hw | hw
  ·exact ca.1 w hw
  ·have:cF x w=cF y w:=by unfold cF; rw [h0]
   rw [this]; exact cb.1 w hw
theorem zWV {a b:List Factor}:(∀ f∈a,eOK f∧1≤f.Exp)→(∀ f∈b,eOK f∧1≤f.Exp)→∀ f∈zbN a b,eOK f∧1≤f.Exp:=by
 induction a,b using zbN.induct with
 | case1 b=>intro _ hb; rw [zbN]; exact hb
 | case2 x a=>intro ha _; rw [zbN]; exact ha
 | case3 x a y b h ih=>
  intro ha hb f hf
  rw [zbN,if_pos h] at hf
  rcases List.mem_cons.1 hf with rfl | hf
  ·exact ha _ (by simp)
  ·exact ih (fun g hg=>ha g (by simp [hg])) hb f hf
 | case4 x a y b h h2 ih=>
  intro ha hb f hf
  rw [zbN,if_neg h,if_pos h2] at hf
  rcases List.mem_cons.1 hf with rfl | hf
  ·exact hb _ (by simp)
  ·exact ih ha (fun g hg=>hb g (by simp [hg])) f hf
 | case5 x a y b h h2 ih=>
  intro ha hb f hf
  rw [zbN,if_neg h,if_neg h2] at hf
  rcases List.mem_cons.1 hf with rfl | hf
  ·have h1:=ha x (by simp)
   have h2:=hb y (by simp)
   split
   ·exact h1
   ·rename_i hk
    exact ⟨⟨h1.1.1,fun h=>absurd h hk⟩,by show 1≤x.Exp+y.Exp; omega⟩
  ·exact ih (fun g hg=>ha g (by simp [hg])) (fun g hg=>hb g (by simp [hg])) f hf
theorem zYh {a b:List Factor} (ha:MF a) (hb:MF b):MF (zbN a b):=⟨zWN ha.1 hb.1,zWV ha.2 hb.2⟩
def EqS (n m:Nat):Prop:=n=m∨(1152921504606846976≤n∧1152921504606846976≤m)
theorem EqS.refl (n:Nat):EqS n n:=.inl rfl
theorem EqS.symm {n m:Nat} (h:EqS n m):EqS m n:=by unfold EqS at *; omega
theorem EqS.trans {n m k:Nat} (h:EqS n m) (h':EqS m k):EqS n k:=by unfold EqS at *; omega
theorem EqS.add {n m n' m':Nat} (h:EqS n n') (h':EqS m m'):EqS (n+m) (n'+m'):=by unfold EqS at *; omega
theorem EqS.mul1 {n n':Nat} (k:Nat) (h:EqS n n'):EqS (n*k) (n'*k):=by
 rcases h with rfl | ⟨h1,h2⟩
 ·exact .refl _
 ·rcases Nat.eq_zero_or_pos k with rfl | hk
  ·exact .inl (by simp)
  ·exact .inr ⟨Nat.le_trans h1 (Nat.le_mul_of_pos_right n hk),Nat.le_trans h2 (Nat.le_mul_of_pos_right n' hk)⟩
theorem EqS.mul {n m n' m':Nat} (h:EqS n n') (h':EqS m m'):EqS (n*m) (n'*m'):=by
 refine (h.mul1 m).trans ?_
 rw [Nat.mul_comm n' m,Nat.mul_comm n' m']
 exact h'.mul1 n'
def PA (a:List Term):Prop:=Srs a∧∀ t∈a,cOK t∧MF t.Factors
theorem PA.c {a:List Term} (h:PA a):∀ t∈a,cOK t:=fun t ht=>(h.2 t ht).1
theorem PA.nil:PA []:=⟨List.Pairwise.nil,fun t ht=>by cases ht⟩
theorem zDF {τ:Type} [Inhabited τ] {R:τ→τ→Prop}:∀ {l:List τ},l.Pairwise R→∀ k,0<k→k<l.length→R (l.getD (k - 1) default) (l.getD k default)
 | [],_,k,_,h=>by simp at h
 | x::r,h,0,h0,_=>by omega
 | x::r,h,1,_,h1=>(List.pairwise_cons.1 h).1 _ (zx (by simpa using h1))
 | x::r,h,k+2,_,h1=>zDF (List.pairwise_cons.1 h).2 (k+1) (by omega) (by simp only [List.length_cons] at h1; omega)
def OKF (vat:Atom→Bool) (fs:List Factor):Prop:=Srf fs∧∀ f∈fs,(1≤f.Exp∧(f.Atom.Kind=3∨f.Atom.Kind=4→f.Exp=1))∧vat f.Atom=true
theorem zUl {vat:Atom→Bool} {fs:List Factor}:okF vat fs=true↔OKF vat fs:=by
 constructor
 ·intro h
  refine ⟨zs0 (R:=fun x y=>cF x y<0) (fun x y z h1 h2=>zze h1 h2) _ fun k hk hl=> ?_,fun f hf=>zme h hf⟩
  have:=zea.1 h k (by omega) (by omega)
  simp only [chkF,Bool.and_eq_true,Bool.or_eq_true,decide_eq_true_eq] at this
  rcases this.1.2 with e | e
  ·omega
  ·exact e
 ·intro h
  refine zea.2 fun k _ hk=> ?_
  have hm:=h.2 _ (zx (l:=fs) (i:=k) (by omega))
  simp only [chkF,Bool.and_eq_true,Bool.or_eq_true,decide_eq_true_eq,Bool.not_eq_true',Bool.and_eq_false_iff]
  refine ⟨⟨⟨hm.1.1, ?_⟩, ?_⟩,hm.2⟩
  ·by_cases hk:(fs.getD k default).Atom.Kind=3∨(fs.getD k default).Atom.Kind=4
   ·right; rw [hm.1.2 hk]; rfl
   ·left
    rw [Bool.or_eq_false_iff]
    constructor
    ·simpa using fun e=>hk (.inl e)
    ·simpa using fun e=>hk (.inr e)
  ·by_cases h0:k=0
   ·exact .inl h0
   ·exact .inr (zDF h.1 k (by omega) (by omega))
theorem zSM {vat:Atom→Bool} {a:List Term}:vAnn vat a=true↔zmy a=true∧Srs a∧∀ t∈a,cOK t∧OKF vat t.Factors:=by
 constructor
 ·intro h
  have hall:=h
  simp only [vAnn,Bool.and_eq_true] at hall
  refine ⟨hall.1,zs0 (R:=fun x y=>cT x y<0) (fun x y z h1 h2=>zDv h1 h2) a fun k hk hl=> ?_,fun t ht=>⟨(zqf h ht).1,zUl.1 (zqf h ht).2⟩⟩
  have:=zea.1 hall.2 k (by omega) (by omega)
  simp only [chkT,Bool.and_eq_true,Bool.or_eq_true,decide_eq_true_eq] at this
  rcases this.1.2 with e | e
  ·omega
  ·exact e
 ·rintro ⟨h1,h2,h3⟩
  simp only [vAnn,Bool.and_eq_true]
  refine ⟨h1,zea.2 fun k _ hk=> ?_⟩
  have hm:=h3 _ (zx (l:=a) (i:=k) (by omega))
  simp only [chkT,Bool.and_eq_true,Bool.or_eq_true,decide_eq_true_eq]
  refine ⟨⟨⟨hm.1.1,hm.1.2⟩, ?_⟩,zUl.2 hm.2⟩
  by_cases h0:k=0
  ·exact .inl h0
  ·exact .inr (zDF h2 k (by omega) (by omega))
def QA (a:List Term):Prop:=Srs a∧∀ t∈a,cOK t∧OKF vatA t.Factors
theorem OKF.mf {fs:List Factor} (h:OKF vatA fs):MF fs:=⟨h.1,fun f hf=>⟨⟨zxJ (h.2 f hf).2,(h.2 f hf).1.2⟩,(h.2 f hf).1.1⟩⟩
theorem MF.okf {fs:List Factor} (h:MF fs) (hv:∀ f∈fs,vatA f.Atom=true):OKF vatA fs:=⟨h.1,fun f hf=>⟨⟨(h.2 f hf).2,(h.2 f hf).1.2⟩,hv f hf⟩⟩
theorem OKF.join {a b:List Factor} (ha:OKF vatA a) (hb:OKF vatA b):OKF vatA (zbN a b):=(zYh ha.mf hb.mf).okf fun f hf=>by
 obtain ⟨y,hy,e⟩:=zqA hf
 rw [e]
 rcases hy with hy | hy
 ·exact (ha.2 y hy).2
 ·exact (hb.2 y hy).2
theorem QA.nil:QA []:=⟨List.Pairwise.nil,fun t ht=>by cases ht⟩
theorem zOn {x:Atom}:vatA x=true↔VA zbB x:=zdp
def sbd {α β:Type} (x:Int⊕α) (k:α→Int⊕β):Int⊕β:=match x with
 | .inl e=>.inl e
 | .inr a=>k a
theorem zv3 {α β:Type} (e:Int) (k:α→Int⊕β):sbd (.inl e) k=.inl e:=rfl
theorem zgm {α β:Type} (a:α) (k:α→Int⊕β):sbd (.inr a) k=k a:=rfl
def opS (r:List Term×Int):Int⊕List Term:=if r.2=0 then .inr r.1 else .inl r.2
def ofS:Int⊕List Term→List Term×Int
 | .inl e=>([],e)
 | .inr a=>(a,0)
theorem zvX {r:List Term×Int} (h:r.2=0∨r.1=[]):ofS (opS r)=r:=by
 obtain ⟨a,e⟩:=r
 simp only at h
 unfold opS
 by_cases he:e=0
 ·subst he; simp [ofS]
 ·rw [if_neg he]
  rcases h with h | h
  ·exact absurd h he
  ·subst h; rfl
def powS (b:List Term):Nat→List Term→Int⊕List Term
 | 0,p=>.inr p
 | n+1,p=>sbd (opS (mulR p b)) (powS b n)
mutual
def zfm (to:RowID→List Term):Atom→Int⊕List Term
 | ⟨k,r,a,f,i,o,b⟩=>if k=0 then .inr (to r) else
  sbd (zjc to a) fun xs=>if k=1 then opS (monR (xs.getD 0 default) (xs.getD 1 default)) else if k=2 then opS (delR (xs.getD 0 default)) else if k=3 then opS (absR (xs.getD 0 default)) else
   sbd (zhu to i) fun is=>opS (zzX f is o b)
def zd3 (to:RowID→List Term):List Factor→List Term→Int⊕List Term
 | [],p=>.inr p
 | ⟨x,e⟩::r,p=>sbd (zfm to x) fun b=>sbd (powS b e.toNat p) fun q=>zd3 to r q
def zcy (to:RowID→List Term):List Term→List Term→Int⊕List Term
 | [],s=>.inr s
 | ⟨c,fs⟩::r,s=>sbd (zd3 to fs (cstA c)) fun p=>sbd (opS (addR s p)) fun q=>zcy to r q
def zjc (to:RowID→List Term):List (List Term)→Int⊕List (List Term)
 | []=>.inr []
 | a::r=>sbd (zcy to a []) fun b=>sbd (zjc to r) fun l=>.inr (b::l)
def zhu (to:RowID→List Term):List Weighted→Int⊕List Weighted
 | []=>.inr []
 | ⟨v,a⟩::r=>sbd (zcy to a []) fun b=>sbd (zhu to r) fun l=>.inr (⟨v,b⟩::l)
end
variable (to:RowID→List Term)
theorem zJU (p:List Term):zd3 to [] p=.inr p:=by rw [zd3]
theorem zHl (f:Factor) (r:List Factor) (p:List Term):zd3 to (f::r) p=sbd (zfm to f.Atom) fun b=>sbd (powS b f.Exp.toNat p) fun q=>zd3 to r q:=by cases f; rw [zd3]
theorem zQV (s:List Term):zcy to [] s=.inr s:=by rw [zcy]
theorem zPt (t:Term) (r s:List Term):zcy to (t::r) s=sbd (zd3 to t.Factors (cstA t.Coeff)) fun p=>sbd (opS (addR s p)) fun q=>zcy to r q:=by cases t; rw [zcy]
theorem zOX:zjc to []=.inr []:=by rw [zjc]
theorem zNC (a:List Term) (r:List (List Term)):zjc to (a::r)=sbd (zcy to a []) fun b=>sbd (zjc to r) fun l=>.inr (b::l):=by rw [zjc]
theorem zG1:zhu to []=.inr []:=by rw [zhu]
theorem zLq (w:Weighted) (r:List Weighted):zhu to (w::r)=sbd (zcy to w.Ann []) fun b=>sbd (zhu to r) fun l=>.inr (⟨w.Value,b⟩::l):=by cases w; rw [zhu]
theorem zQ6 (x:Atom):zfm to x=if x.Kind=0 then .inr (to x.Row) else
  sbd (zjc to x.Args) fun xs=>if x.Kind=1 then opS (monR (xs.getD 0 default) (xs.getD 1 default)) else if x.Kind=2 then opS (delR (xs.getD 0 default)) else if x.Kind=3 then opS (absR (xs.getD 0 default)) else
   sbd (zhu to x.Items) fun is=>opS (zzX x.Func is x.Op x.Bound):=by cases x; rw [zfm]
def GE {α:Type} (P:α→Prop):Int⊕α→Prop
 | .inl e=>e≠0
 | .inr a=>P a
abbrev GS:Int⊕List Term→Prop:=GE okA
theorem zGn {r:List Term×Int} (h:okR r):GS (opS r):=by
 unfold opS
 by_cases he:r.2=0
 ·rw [if_pos he]; exact h.1
 ·rw [if_neg he]; exact he
theorem zFz {α β:Type} {P:α→Prop} {Q:β→Prop} {x:Int⊕α} {k:α→Int⊕β} (hx:GE P x) (hk:∀ a,P a→GE Q (k a)):GE Q (sbd x k):=by
 cases x with
 | inl e=>exact hx
 | inr a=>exact hk a hx
theorem zPa {b:List Term} (hb:okA b):∀ (n:Nat) (p:List Term),okA p→GS (powS b n p)
 | 0,p,hp=>hp
 | n+1,p,hp=>zFz (zGn (zQm hp hb)) fun q hq=>zPa hb n q hq
abbrev GL (n:Nat):Int⊕List (List Term)→Prop:=GE fun l=>l.length=n∧∀ a∈l,okA a
abbrev GI (i:List Weighted):Int⊕List Weighted→Prop:=GE fun l=>l.length=i.length∧∀ w∈l,okA w.Ann∧∃ v∈i,v.Value=w.Value
theorem zVn (w:Weighted):zAn w↔wf46 w.Value∧zfs w.Ann∧w.Ann.length≤roomLen:=by cases w; unfold zAn; exact Iff.rfl
theorem zWp {k f o:Int} {r:RowID} {a:List (List Term)} {i:List Weighted} {b:Value} (h1:wf3 k) (h2:wf25 r) (h3:zrh a∧a.length≤roomLen) (h4:wf3 f) (h5:zn0 i∧i.length≤roomLen) (h6:wf3 o) (h7:wf46 b):zfr ⟨k,r,a,f,i,o,b⟩:=by
 unfold zfr; exact ⟨h1,h2,h3,h4,h5,h6,h7⟩
theorem zLI {f o:Int} {l:List Weighted} {b:Value} (hl:l.length≤1000000) (h:∀ w∈l,okA w.Ann∧wf46 w.Value) (hf:wf3 f) (ho:wf3 o) (hb:wf46 b):okR (zzX f l o b):=by
 unfold zzX
 cases hk:fitK f l o b with
 | false=>exact ⟨ziQ,.inr rfl⟩
 | true=>
  cases hv:l.all fun w=>zbB w.Ann with
  | false=>exact ⟨ziQ,.inr rfl⟩
  | true=>
   simp only [Bool.and_self,Bool.not_true,cond_false]
   cases decide (0<(zeD l).length) with
   | true=>
    obtain ⟨tf,ts⟩:=zDV hl hk hv
    have hr:roomLen=140737488351232:=rfl
    have hlen:(zeD l).length≤1000000:=by rw [zPR]; exact Nat.le_trans (List.length_filter_le _ _) hl
    refine zDt ⟨⟨tf.mono (by omega),ts⟩,zzP _ fun t ht=> ?_,by simp [oneA,roomLen]⟩
    simp only [oneA,List.mem_singleton] at ht
    subst ht
    refine zL6 ⟨by simp,by simp⟩ (fun g hg=> ?_) (by simp)
    simp only [List.mem_singleton] at hg
    subst hg
    refine ⟨zWp (zMr (zK7 (by omega))) ⟨zmH,zmH⟩ ⟨by unfold zrh; trivial,by simp⟩ hf ⟨zIE _ fun w hw=> ?_,by omega⟩ ho hb,⟨by simp,by simp⟩⟩
    have hm:=h w (zJb hw).1
    exact (zVn w).2 ⟨hm.2,hm.1.2⟩
   | false=>
    cases f==0&&mats o (cmpI 0 b.Int) with
    | true=>exact ⟨zMK 1 (by omega),.inl rfl⟩
    | false=>exact ⟨ziQ,.inl rfl⟩
theorem zzc {l:List (List Term)} (h:∀ a∈l,okA a) (i:Nat):okA (l.getD i default):=by
 by_cases hi:i<l.length
 ·exact h _ (zx hi)
 ·rw [List.getD_eq_getElem?_getD,List.getElem?_eq_none (by omega)]; exact ziQ
def okT (to:RowID→List Term):Prop:=∀ r,wf25 r→okA (to r)
variable {to}
mutual
theorem zRc (ht:okT to):∀ (x:Atom) (d:Nat),zfr x→zcJ (zq d) x→GS (zfm to x)
 | ⟨k,r,a,f,i,o,b⟩=>fun d hw hi=>by
  have hw':=zmf hw
  simp only at hw'
  obtain ⟨⟨ha,hal⟩,⟨hit,hil⟩,hb,hk,hr,hf,ho⟩:=hw'
  obtain ⟨⟨l1,l2,_⟩,f1,f2⟩:=hi
  simp only at l1 l2 f1 f2
  rw [zfm]
  by_cases hk0:k=0
  ·rw [if_pos hk0]; exact ht r hr
  ·rw [if_neg hk0]
   have hA:=zLN ht a d (fun x hx=>(zis ha x hx).1) f1
   refine zFz hA fun xs has=> ?_
   have h0:=zzc has.2 0
   have h1:=zzc has.2 1
   split
   ·exact zGn (zP7 h0 h1)
   ·split
    ·exact zGn (zQz h0)
    ·split
     ·exact zGn (zP4 h0)
     ·have hI:=zIM ht i d (fun x hx=>(zg6 hit x hx).2.1) fun w hw=>(f2 w hw).2
      refine zFz hI fun is his=> ?_
      refine zGn (zLI (by omega) (fun w hw=>⟨(his.2 w hw).1, ?_⟩) hf ho hb)
      obtain ⟨v,hv,e⟩:=(his.2 w hw).2
      rw [← e]; exact (zg6 hit v hv).1
theorem zD4 (ht:okT to):∀ (l:List Factor) (d:Nat),(∀ f∈l,zfr f.Atom∧zcJ (zq d) f.Atom)→∀ p,okA p→GS (zd3 to l p)
 | [],_,_,p,hp=>by rw [zd3]; exact hp
 | ⟨x,e⟩::r,d,h,p,hp=>by
  rw [zd3]
  have hx:=zRc ht x d (h ⟨x,e⟩ (by simp)).1 (h ⟨x,e⟩ (by simp)).2
  refine zFz hx fun b hb=>zFz (zPa hb _ p hp) fun q hq=> ?_
  exact zD4 ht r d (fun f hf=>h f (by simp [hf])) q hq
theorem zI5 (ht:okT to):∀ (a:List Term) (d:Nat),zfs a→(∀ t∈a,∀ f∈t.Factors,zcJ (zq d) f.Atom)→∀ s,okA s→GS (zcy to a s)
 | [],_,_,_,s,hs=>by rw [zcy]; exact hs
 | ⟨c,fs⟩::r,d,hw,hi,s,hs=>by
  rw [zcy]
  have hwt:=zoo hw ⟨c,fs⟩ (by simp)
  have hp:=zD4 ht fs d (fun f hf=>⟨(zmX (zlQ (zqw hwt).2.1 f hf)).1,hi ⟨c,fs⟩ (by simp) f hf⟩) (cstA c) (zSy c)
  refine zFz hp fun p hp=>zFz (zGn (zP0 hs hp)) fun q hq=> ?_
  exact zI5 ht r d (zzP _ fun t ht=>zoo hw t (by simp [ht])) (fun t ht=>hi t (by simp [ht])) q hq
theorem zLN (ht:okT to):∀ (l:List (List Term)) (d:Nat),(∀ a∈l,zfs a)→(∀ a∈l,zq d a)→GL l.length (zjc to l)
 | [],_,_,_=>by rw [zjc]; exact ⟨rfl,fun a ha=>by cases ha⟩
 | a::r,d,h,hi=>by
  rw [zjc]
  have hf:=hi a (by simp)
  have h1:GS (zcy to a []):=by
   cases d with
   | zero=>exact hf.elim
   | succ d=>exact zI5 ht a d (h a (by simp)) (fun t ht f hf'=>(hf.2 t ht).2 f hf') [] ziQ
  have h2:=zLN ht r d (fun b hb=>h b (by simp [hb])) (fun b hb=>hi b (by simp [hb]))
  revert h1 h2
  cases zcy to a [] with
  | inl e=>exact fun h _=>h
  | inr b=>
   cases zjc to r with
   | inl e=>exact fun _ h=>h
   | inr l=>
    intro h1 h2
    refine ⟨by simp [h2.1],fun x hx=> ?_⟩
    rcases List.mem_cons.1 hx with rfl | hx
    ·exact h1
    ·exact h2.2 x hx
theorem zIM (ht:okT to):∀ (l:List Weighted) (d:Nat),(∀ w∈l,zfs w.Ann)→(∀ w∈l,zq d w.Ann)→GI l (zhu to l)
 | [],_,_,_=>by rw [zhu]; exact ⟨rfl,fun a ha=>by cases ha⟩
 | ⟨v,a⟩::r,d,h,hi=>by
  rw [zhu]
  have hf:zq d a:=hi ⟨v,a⟩ (by simp)
  have h1:GS (zcy to a []):=by
   cases d with
   | zero=>exact hf.elim
   | succ d=>exact zI5 ht a d (h ⟨v,a⟩ (by simp)) (fun t ht f hf'=>(hf.2 t ht).2 f hf') [] ziQ
  have h2:=zIM ht r d (fun b hb=>h b (by simp [hb])) (fun b hb=>hi b (by simp [hb]))
  revert h1 h2
  cases zcy to a [] with
  | inl e=>exact fun h _=>h
  | inr b=>
   cases zhu to r with
   | inl e=>exact fun _ h=>h
   | inr l=>
    intro h1 h2
    refine ⟨by simp [h2.1],fun x hx=> ?_⟩
    rcases List.mem_cons.1 hx with rfl | hx
    ·exact ⟨h1,⟨v,a⟩,by simp,rfl⟩
    ·obtain ⟨h3,w,hw,e⟩:=h2.2 x hx
     exact ⟨h3,w,by simp [hw],e⟩
end
def toA:List Binding→RowID→List Term
 | [],r=>varA r
 | b::l,r=>if b.Row=r then b.To else toA l r
def okB (l:List Binding):Prop:=l.length≤1000∧∀ b∈l,okA b.To
theorem zVL:∀ {l:List Binding},(∀ b∈l,okA b.To)→okT (toA l)
 | [],_,r,hr=>by rw [toA]; exact zZm hr
 | b::l,h,r,hr=>by
  rw [toA]
  split
  ·exact h b (by simp)
  ·exact zVL (fun c hc=>h c (by simp [hc])) r hr
theorem zUG (a b:RowID):(a.Table==b.Table&&(a.Seq==b.Seq&&true))=decide (a=b):=by
 obtain ⟨t,s⟩:=a; obtain ⟨t',s'⟩:=b
 rw [Bool.and_true,beqd,beqd, ← Bool.decide_and]
 congr 1
 simp
theorem zWC (a b:RowID):(a.Table==b.Table&&a.Seq==b.Seq)=decide (a=b):=by rw [← zUG,Bool.and_true]
theorem zUm:∀ (l:List Binding) (r:RowID) (i:Nat),(ixf (fun b=>decide (b.Row=r)) l i= -1∧toA l r=varA r)∨∃ j,j<l.length∧ixf (fun b=>decide (b.Row=r)) l i=((i+j:Nat):Int)∧toA l r=(l.getD j default).To
 | [],r,i=>.inl ⟨rfl,rfl⟩
 | b::l,r,i=>by
  rw [ixf,toA]
  by_cases h:b.Row=r
  ·rw [decide_eq_true h,cond_true,if_pos h]
   exact .inr ⟨0,by simp,rfl,rfl⟩
  ·rw [decide_eq_false h,cond_false,if_neg h]
   rcases zUm l r (i+1) with ⟨h1,h2⟩ | ⟨j,h1,h2,h3⟩
   ·exact .inl ⟨h1,h2⟩
   ·exact .inr ⟨j+1,by simp; omega,by rw [h2]; congr 1; omega,h3⟩
theorem zZJ {l:List Binding} (h:okB l) (r:RowID):zgF r l=(true,toA l r):=by
 unfold zgF zlK
 have hi:zb9 l r=(true,ixf (fun b=>decide (b.Row=r)) l 0):=by
  have e:zb9 l r=IH (fun (g:RowID×Unit) x=>zeU x g.1) (l.length+(Int.ofNat l.length).toNat +Int.toNat (0:Int)+(1:Nat)) (r,()) l:=rfl
  rw [e]
  exact zXM _ _ _ _ _ (by have:=h.1; omega) (fun x _=>by
   unfold zeU zj1
   rw [Wy.fin_k,zUG]) (by omega)
 rw [Wy.fin_bn,hi]
 rcases zUm l r 0 with ⟨h1,h2⟩ | ⟨j,h1,h2,h3⟩
 ·rw [h1,h2]
  simp only [cond_true,Wy.fin_i,Wy.fin_bn,Wy.fin_k,(zVV r).1]
  rfl
 ·rw [Nat.zero_add] at h2
  rw [h2,h3]
  have hm:=h.2 _ (zx h1)
  have e1:decide ((j:Int)≥(0:Int))=true:=by simp
  simp only [cond_true,Wy.fin_i,Wy.fin_bn,Wy.fin_k,e1,tT,h1,zA6 hm.1.1 (show (12:Nat)≤100 by omega)]
theorem zXc {l:List Binding} (h:okB l) (r:RowID):∃ b q,zuK l r=(true,(b,q))∧((q=true∧b=toA l r)∨(q=false∧toA l r=varA r)):=by
 have key:∀ (n i:Nat),l.length<i+n→i≤l.length→∃ x,zzz n l i r=(true,x)∧((x=.inl (toA (l.drop i) r,true))∨(x=.inr ()∧toA (l.drop i) r=varA r)):=by
  intro n
  induction n with
  | zero=>intro i h1 h2; omega
  | succ n ih=>
   intro i h1 h2
   have hlen:=h.1
   show ∃ x,(zzn l i r).ev (fun x y=>zzz n x.1 x.2.2.1 y.1) (fun r=>(true,r)) (false,.inl default)=(true,x)∧_
   unfold zzn
   by_cases hi:i<l.length
   ·simp only [Wy.ev_i,Wy.ev_k,Wy.ev_h,Wy.ev_bn,Wy.ev_d,tT,hi,zWC]
    rw [zbu hi,toA]
    by_cases hr:(l.getD i default).Row=r
    ·rw [decide_eq_true hr,if_pos hr,cond_true]
     exact ⟨_,rfl,.inl rfl⟩
    ·rw [decide_eq_false hr,if_neg hr,cond_false,zT (by omega)]
     exact ih (i+1) (by omega) (by omega)
   ·simp only [Wy.ev_i,Wy.ev_k,Wy.ev_h,Wy.ev_bn,Wy.ev_d,tT,hi]
    rw [zcE hi]
    exact ⟨_,rfl,.inr ⟨rfl,rfl⟩⟩
 obtain ⟨x,h1,h2⟩:=key (l.length+Int.toNat (0:Int)+(1:Nat)) 0 (by omega) (by omega)
 unfold zuK zCa
 rw [show ((0:Nat):Int)=(0:Int) from rfl] at h1
 rw [Wy.fin_bn,h1]
 rw [List.drop_zero] at h2
 rcases h2 with rfl | ⟨rfl,h2⟩
 ·exact ⟨_,_,rfl,.inl ⟨rfl,rfl⟩⟩
 ·exact ⟨_,_,rfl,.inr ⟨rfl,h2⟩⟩
def RS (s:Int⊕List Term) (e:Int) (p:List Term):Prop:=match s with
 | .inl x=>e=x∧x≠0
 | .inr q=>e=0∧p=q
theorem zXF (r:List Term×Int):RS (opS r) r.2 r.1:=by
 unfold opS
 by_cases h:r.2=0
 ·rw [if_pos h]; exact ⟨h,rfl⟩
 ·rw [if_neg h]; exact ⟨rfl,h⟩
theorem zSs (b:List Term) (s:Int⊕List Term):sbd s (powS b 0)=s:=by cases s <;>rfl
section
variable (g:Atom→List Binding→Bool×(List Term×Int)) (to:List Binding)
theorem zVw (b:List Term) (hb:okA b) (t16:List Term) (t17 t18:Int) (t26:List Factor) (t27 t28:Int) (N:Nat) (hN:N≤1000000) (sum:List Term):
  ∀ (n i:Nat) (e:Int) (p:List Term) (s:Int⊕List Term),N<i+n→i≤N→GS s→RS s e p→∃ e' p',zmY g n to b e t16 t17 t18 t26 t27 t28 N i sum p=(true,(to,e',t16,t17,t18,t26,t27,t28,sum,p'))∧RS (sbd s (powS b (N - i))) e' p'
 | 0,i,e,p,s,h1,h2,_,_=>by omega
 | n+1,i,e,p,s,h1,h2,hs,hr=>by
  show ∃ e' p',(znl g to b e t16 t17 t18 t26 t27 t28 N i sum p).ev (fun x y=>zmY g n x.1.1.1 x.2.2.2.1 x.2.2.2.2.1 x.2.2.2.2.2.1 x.2.2.2.2.2.2.1 x.2.2.2.2.2.2.2.1 x.2.2.2.2.2.2.2.2.1 x.2.2.2.2.2.2.2.2.2.1 x.2.2.2.2.2.2.2.2.2.2.1 x.2.2.2.2.2.2.2.2.2.2.2.1 x.2.2.2.2.2.2.2.2.2.2.2.2.1 y.1 y.2.1) (fun r=>(true,r)) (false,default)=_∧_
  unfold znl
  by_cases hi:i<N
  ·have hk:N - i=(N - (i+1))+1:=by omega
   cases s with
   | inl x=>
    obtain ⟨rfl,hx⟩:=hr
    have he:(e==(0:Int))=false:=by simp [hx]
    simp only [Wy.ev_i,Wy.ev_k,Wy.ev_h,Wy.ev_bn,Wy.ev_d,zuS,hi,decide_true,cond_true,he,cond_false,zT (show i<4611686018427387904 by omega)]
    exact zVw b hb t16 t17 t18 t26 t27 t28 N hN sum n (i+1) e p (.inl e) (by omega) (by omega) hs ⟨rfl,hx⟩
   | inr q=>
    obtain ⟨rfl,rfl⟩:=hr
    have hp:okA p:=hs
    simp only [Wy.ev_i,Wy.ev_k,Wy.ev_h,Wy.ev_bn,Wy.ev_d,zuS,hi,decide_true,cond_true,(zV1 hp hb).1,zT (show i<4611686018427387904 by omega),show ((0:Int)==0)=true from rfl]
    rw [hk]
    exact zVw b hb t16 t17 t18 t26 t27 t28 N hN sum n (i+1) (mulR p b).2 (mulR p b).1 (opS (mulR p b)) (by omega) (by omega) (zGn (zQm hp hb)) (zXF _)
  ·have hk:N - i=0:=by omega
   simp only [Wy.ev_i,Wy.ev_k,zuS,hi,decide_false,cond_false]
   rw [hk,zSs]
   exact ⟨e,p,rfl,hr⟩
def AG (l:List Factor):Prop:=∀ f∈l,(g f.Atom to=(true,ofS (zfm (toA to) f.Atom))∧GS (zfm (toA to) f.Atom))∧0≤f.Exp∧f.Exp≤1000000
theorem zWh {s:Int⊕List Term} (h:GS s):okA (ofS s).1:=by
 cases s with
 | inl e=>exact ziQ
 | inr a=>exact h
theorem zTh {s:Int⊕List Term} (h:GS s) (p:List Term):RS (sbd s fun _=>.inr p) (ofS s).2 p:=by
 cases s with
 | inl e=>exact ⟨rfl,h⟩
 | inr a=>exact ⟨rfl,rfl⟩
theorem zSo {s:Int⊕List Term} (h:GS s) {p:List Term} (hp:okA p):GS (sbd s fun _=>.inr p):=zFz h fun _ _=>hp
theorem zQO {s:Int⊕List Term} (p:List Term) (N:Nat):sbd (sbd s fun _=>.inr p) (powS (ofS s).1 N)=sbd s fun b=>powS b N p:=by
 cases s <;>rfl
theorem rp_7 (l:List Factor) (hl:l.length≤1000000) (hg:AG g to l) (t16:List Term) (t17 t18:Int) (sum:List Term):
  ∀ (n i:Nat) (p:List Term),l.length<i+n→i≤l.length→okA p→znJ g n to t16 t17 t18 l l.length i sum p=(true,match zd3 (toA to) (l.drop i) p with
   | .inl e=>.inl e
   | .inr q=>.inr (to,t16,t17,t18,sum,q))
 | 0,i,p,h1,h2,_=>by omega
 | n+1,i,p,h1,h2,hp=>by
  show (znS g to t16 t17 t18 l l.length i sum p).ev (fun x y=>znJ g n x.1.1.1 x.2.2.2.1 x.2.2.2.2.1 x.2.2.2.2.2.1 x.2.2.2.2.2.2.1 x.2.2.2.2.2.2.2.1 x.2.2.2.2.2.2.2.2.1 y.1 y.2.1) (fun r=>(true,r)) (false,.inl default)=_
  unfold znS
  by_cases hi:i<l.length
  ·obtain ⟨⟨hf,hG⟩,e0,e1⟩:=hg _ (zx hi)
   obtain ⟨N,hN⟩:∃ N:Nat,(l.getD i default).Exp=(N:Int):=⟨_,(Int.toNat_of_nonneg e0).symm⟩
   obtain ⟨e',p',h11,hrs⟩:=zVw g to (ofS (zfm (toA to) (l.getD i default).Atom)).1 (zWh hG) t16 t17 t18 l l.length i N (by omega) sum
    (to.length+(ofS (zfm (toA to) (l.getD i default).Atom)).1.length+(ofS (zfm (toA to) (l.getD i default).Atom)).2.toNat +t16.length+t17.toNat +t18.toNat +l.length+(l.length:Int).toNat +(i:Int).toNat +(N:Int).toNat +Int.toNat (0:Int)+sum.length+p.length+(1:Nat)) 0 _ p _ (by omega) (by omega) (zSo hG hp) (zTh hG p)
   rw [zQO,Nat.sub_zero] at hrs
   rw [show ((0:Nat):Int)=(0:Int) from rfl] at h11
   rw [zbu hi,zHl,hN,Int.toNat_natCast]
   simp only [Wy.ev_i,Wy.ev_k,Wy.ev_h,Wy.ev_bn,Wy.ev_d,tT,hi,Atom.eta,hf,hN,bne0]
   rw [show Int.toNat (l.length:Int)=l.length from Int.toNat_natCast _,show Int.toNat (i:Int)=i from Int.toNat_natCast _,show Int.toNat (N:Int)=N from Int.toNat_natCast _] at h11
   rw [h11]
   have hS:=hG
   revert hrs hS
   cases zfm (toA to) (l.getD i default).Atom with
   | inl x=>
    rintro ⟨rfl,hx⟩ _
    simp [hx,zv3]
   | inr b=>
    intro hrs hb
    simp only [zgm] at hrs ⊢
    have hq:=zPa (b:=b) hb N p hp
    revert hrs hq
    cases powS b N p with
    | inl x=>
     rintro ⟨rfl,hx⟩ _
     simp [hx,zv3]
    | inr q=>
     rintro ⟨rfl,rfl⟩ hq
     simp only [zgm,decide_true,Bool.not_true,cond_true,cond_false,zT (show i<4611686018427387904 by omega)]
     exact rp_7 l hl hg t16 t17 t18 sum n (i+1) p' (by omega) (by omega) hq
  ·simp only [Wy.ev_i,Wy.ev_k,Wy.ev_h,Wy.ev_bn,Wy.ev_d,tT,hi]
   rw [zcE hi,zJU]
theorem rp_3 (l:List Term) (hl:l.length≤1000000) (hg:∀ t∈l,t.Factors.length≤1000000∧AG g to t.Factors) (hok:∀ t∈l,∀ p,okA p→GS (zd3 (toA to) t.Factors p)):
  ∀ (n i:Nat) (s:List Term),l.length<i+n→i≤l.length→okA s→znG g n to l l.length i s=(true,zcy (toA to) (l.drop i) s)
 | 0,i,s,h1,h2,_=>by omega
 | n+1,i,s,h1,h2,hs=>by
  show (znF g to l l.length i s).ev (fun x y=>znG g n x.1.1.1 x.2.2.1 x.2.2.2.1 x.2.2.2.2.1 y.1) (fun r=>(true,r)) (false,.inl default)=_
  unfold znF
  by_cases hi:i<l.length
  ·have ht:=hg _ (zx hi)
   have hc:=zSy (l.getD i default).Coeff
   have h7:=rp_7 g to (l.getD i default).Factors ht.1 ht.2 l l.length i s (to.length+l.length+(l.length:Int).toNat +(i:Int).toNat +(l.getD i default).Factors.length+((l.getD i default).Factors.length:Int).toNat +Int.toNat (0:Int)+s.length+(cstA (l.getD i default).Coeff).length+(1:Nat)) 0 (cstA (l.getD i default).Coeff) (by omega) (by omega) hc
   rw [show ((0:Nat):Int)=(0:Int) from rfl,List.drop_zero] at h7
   simp only [Int.toNat_natCast] at h7
   rw [zbu hi,zPt]
   simp only [Wy.ev_i,Wy.ev_k,Wy.ev_h,Wy.ev_bn,Wy.ev_d,tT,hi,(zS0 _).1]
   rw [h7]
   have hS:=hok _ (zx hi) _ hc
   revert hS
   cases zd3 (toA to) (l.getD i default).Factors (cstA (l.getD i default).Coeff) with
   | inl e=>intro _; rfl
   | inr p=>
    intro hp
    have hp:okA p:=hp
    simp only [zgm,isL,getR,cond_true,cond_false,(zWq hs hp).1,bne0]
    have hG:=zP0 hs hp
    unfold opS
    by_cases he:(addR s p).2=0
    ·rw [if_pos he,decide_eq_true he,zgm,zT (show i<4611686018427387904 by omega)]
     exact rp_3 l hl hg hok n (i+1) _ (by omega) (by omega) hG.1
    ·rw [if_neg he,decide_eq_false he]; rfl
  ·simp only [Wy.ev_i,Wy.ev_k,Wy.ev_h,Wy.ev_bn,Wy.ev_d,tT,hi]
   rw [zcE hi,zQV]
theorem rp_b (a:List Term) (hl:a.length≤1000000) (hg:∀ t∈a,t.Factors.length≤1000000∧AG g to t.Factors) (hok:∀ t∈a,∀ p,okA p→GS (zd3 (toA to) t.Factors p)):zjH g a to=(true,ofS (zcy (toA to) a [])):=by
 unfold zjH zox
 have h3:=rp_3 g to a hl hg hok (to.length+a.length+(Int.ofNat a.length).toNat +Int.toNat (0:Int)+(0:Nat)+(1:Nat)) 0 [] (by omega) (by omega) ziQ
 rw [show ((0:Nat):Int)=(0:Int) from rfl,List.drop_zero] at h3
 rw [Wy.fin_bn,show Int.ofNat a.length=(a.length:Int) from rfl] at *
 rw [h3]
 cases zcy (toA to) a [] <;>rfl
end
section
variable (g:List Term→List Binding→Bool×(List Term×Int)) (to:List Binding)
theorem rp_5 (x:Atom) (l:List (List Term)) (hl:l.length≤1000000) (hg:∀ a∈l,g a to=(true,ofS (zcy (toA to) a []))∧GS (zcy (toA to) a [])):
  ∀ (n i:Nat) (xs:List (List Term)),l.length<i+n→i≤l.length→xs.length≤i→zhZ g n to l l.length i x xs=(true,match zjc (toA to) (l.drop i) with
   | .inl e=>.inl e
   | .inr ys=>.inr (to,x,xs++ys))
 | 0,i,xs,h1,h2,_=>by omega
 | n+1,i,xs,h1,h2,hx=>by
  have hreach:zQ=70368744177664:=rfl
  show (zkR g to l l.length i x xs).ev (fun x y=>zhZ g n x.1.1.1 x.2.2.2.1 x.2.2.2.2.1 x.2.2.2.2.2.1 y.1 y.2.1) (fun r=>(true,r)) (false,.inl default)=_
  unfold zkR
  by_cases hi:i<l.length
  ·obtain ⟨hf,hG⟩:=hg _ (zx hi)
   have hb:decide ((xs.length+1)*24≤zQ)=true:=by simp only [decide_eq_true_eq]; omega
   rw [zbu hi,zNC]
   simp only [Wy.ev_i,Wy.ev_k,Wy.ev_h,Wy.ev_bn,Wy.ev_d,tT,hi,hf,bne0,List.length_singleton,hb]
   revert hG
   cases zcy (toA to) (l.getD i default) [] with
   | inl e=>intro he; simp [ofS,show e≠0 from he,zv3]
   | inr b=>
    intro _
    simp only [ofS,decide_true,Bool.not_true,cond_false,zgm,zT (show i<4611686018427387904 by omega)]
    rw [rp_5 x l hl hg n (i+1) (xs++[b]) (by omega) (by omega) (by simp; omega)]
    cases zjc (toA to) (l.drop (i+1)) with
    | inl e=>rfl
    | inr ys=>simp [zgm]
  ·simp only [Wy.ev_i,Wy.ev_k,Wy.ev_h,Wy.ev_bn,Wy.ev_d,tT,hi]
   rw [zcE hi,zOX]; simp
theorem zXN (x:Atom) (l:List Weighted) (hl:l.length≤1000000) (hg:∀ w∈l,g w.Ann to=(true,ofS (zcy (toA to) w.Ann []))∧GS (zcy (toA to) w.Ann [])):
  ∀ (n i:Nat) (xs:List Weighted),l.length<i+n→i≤l.length→xs.length≤i→zhv g n to l l.length i x xs=(true,match zhu (toA to) (l.drop i) with
   | .inl e=>.inl e
   | .inr ys=>.inr (x,xs++ys))
 | 0,i,xs,h1,h2,_=>by omega
 | n+1,i,xs,h1,h2,hx=>by
  have hreach:zQ=70368744177664:=rfl
  show (zku g to l l.length i x xs).ev (fun x y=>zhv g n x.1.1.1 x.2.2.2.1 x.2.2.2.2.1 x.2.2.2.2.2.1 y.1 y.2.1) (fun r=>(true,r)) (false,.inl default)=_
  unfold zku
  by_cases hi:i<l.length
  ·obtain ⟨hf,hG⟩:=hg _ (zx hi)
   have hb:decide ((xs.length+1)*56≤zQ)=true:=by simp only [decide_eq_true_eq]; omega
   rw [zbu hi,zLq]
   simp only [Wy.ev_i,Wy.ev_k,Wy.ev_h,Wy.ev_bn,Wy.ev_d,tT,hi,hf,bne0,List.length_singleton,hb]
   revert hG
   cases zcy (toA to) (l.getD i default).Ann [] with
   | inl e=>intro he; simp [ofS,show e≠0 from he,zv3]
   | inr b=>
    intro _
    simp only [ofS,decide_true,Bool.not_true,cond_false,zgm,zT (show i<4611686018427387904 by omega)]
    rw [zXN x l hl hg n (i+1) (xs++[WeightedOf.mk (l.getD i default).Value b]) (by omega) (by omega) (by simp; omega)]
    cases zhu (toA to) (l.drop (i+1)) with
    | inl e=>rfl
    | inr ys=>simp [zgm]
  ·simp only [Wy.ev_i,Wy.ev_k,Wy.ev_h,Wy.ev_bn,Wy.ev_d,tT,hi]
   rw [zcE hi,zG1]; simp
structure XG (x:Atom):Prop where
 va:vatA x=true
 lens:x.Args.length≤1000000∧x.Items.length<20
 ga:∀ a∈x.Args,g a to=(true,ofS (zcy (toA to) a []))∧GS (zcy (toA to) a [])
 gi:∀ w∈x.Items,g w.Ann to=(true,ofS (zcy (toA to) w.Ann []))∧GS (zcy (toA to) w.Ann [])
 sa:GL x.Args.length (zjc (toA to) x.Args)
 si:GI x.Items (zhu (toA to) x.Items)
 wf:zfr x
theorem zUq {f o:Int} {i l:List Weighted} {b:Value} (h20:i.length<20) (hl:l.length=i.length∧∀ w∈l,okA w.Ann∧∃ v∈i,v.Value=w.Value):zlq f l o b=(true,zzX f l o b)∧ztQ f l o b=(true,zzX f l o b):=by
 have h1:∀ w∈l,zq 12 w.Ann∧zP w.Ann≤4611686018427387904:=fun w hw=>(hl.2 w hw).1.1
 have h2:(l.filter hasA).length<20:=Nat.lt_of_le_of_lt (List.length_filter_le _ _) (by omega)
 exact ⟨zXY f l o b (by omega) h1 (by omega) h2,zXt f l o b (by omega) h1 (by omega)⟩
theorem zQ0 {x:Atom} (h:vatA x=true):(x.Kind=1→x.Args.length=2)∧(x.Kind=2∨x.Kind=3→x.Args.length=1):=by
 cases zOn.1 h <;>simp
theorem zX2 (hto:okB to) (x:Atom) (h:XG g to x):zgS g x to=(true,ofS (zfm (toA to) x)):=by
 unfold zgS zlD
 have h5:=rp_5 g to x x.Args h.lens.1 h.ga (to.length+x.Args.length+(Int.ofNat x.Args.length).toNat +Int.toNat (0:Int)+x.Args.length+x.Items.length+(0:Nat)+(1:Nat)) 0 [] (by omega) (by omega) (by simp)
 rw [show ((0:Nat):Int)=(0:Int) from rfl,List.drop_zero] at h5
 have h5':zhZ g (to.length+x.Args.length+(Int.ofNat x.Args.length).toNat +Int.toNat (0:Int)+x.Args.length+x.Items.length+(0:Nat)+(1:Nat)) to x.Args (Int.ofNat x.Args.length) 0 x []=_:=h5
 have h21:=zXN g to x x.Items (by have:=h.lens.2; omega) h.gi (to.length+x.Items.length+(Int.ofNat x.Items.length).toNat +Int.toNat (0:Int)+x.Args.length+x.Items.length+(0:Nat)+(1:Nat)) 0 [] (by omega) (by omega) (by simp)
 rw [show ((0:Nat):Int)=(0:Int) from rfl,List.drop_zero] at h21
 have h21':zhv g (to.length+x.Items.length+(Int.ofNat x.Items.length).toNat +Int.toNat (0:Int)+x.Args.length+x.Items.length+(0:Nat)+(1:Nat)) to x.Items (Int.ofNat x.Items.length) 0 x []=_:=h21
 rw [Atom.eta,zQ6]
 have b0:=beqd x.Kind 0
 have b1:=beqd x.Kind 1
 have b2:=beqd x.Kind 2
 have b3:=beqd x.Kind 3
 simp only [Wy.fin_i,Wy.fin_bn,Wy.fin_k,zZJ hto,cond_true,h5',List.nil_append]
 by_cases hk0:x.Kind=0
 ·rw [b0,decide_eq_true hk0,if_pos hk0]; rfl
 ·rw [b0,decide_eq_false hk0,if_neg hk0,cond_false]
  have hA:=h.sa
  have hlen:=zQ0 h.va
  revert hA
  cases zjc (toA to) x.Args with
  | inl e=>intro _; rfl
  | inr xs=>
   intro hxs
   have hxl:xs.length=x.Args.length∧∀ a∈xs,okA a:=hxs
   have o0:=zzc hxl.2 0
   have o1:=zzc hxl.2 1
   simp only [isL,getR,cond_false,zgm]
   by_cases hk1:x.Kind=1
   ·have:=hlen.1 hk1
    rw [b1,decide_eq_true hk1,if_pos hk1]
    simp only [cond_true,show Int.toNat (0:Int)=0 from rfl,show Int.toNat (1:Int)=1 from rfl,(zSR o0 o1).1,zvX (zP7 o0 o1).2]
    simp [hxl.1,this]
   ·rw [b1,decide_eq_false hk1,if_neg hk1,cond_false]
    by_cases hk2:x.Kind=2
    ·have:=hlen.2 (.inl hk2)
     rw [b2,decide_eq_true hk2,if_pos hk2]
     simp only [cond_true,show Int.toNat (0:Int)=0 from rfl,show Int.toNat (1:Int)=1 from rfl,(zTu o0).1,zvX (zQz o0).2]
     simp [hxl.1,this]
    ·rw [b2,decide_eq_false hk2,if_neg hk2,cond_false]
     by_cases hk3:x.Kind=3
     ·have:=hlen.2 (.inr hk3)
      rw [b3,decide_eq_true hk3,if_pos hk3]
      simp only [cond_true,show Int.toNat (0:Int)=0 from rfl,show Int.toNat (1:Int)=1 from rfl,(zQR o0).1,zvX (zP4 o0).2]
      simp [hxl.1,this]
     ·rw [b3,decide_eq_false hk3,if_neg hk3,cond_false,Atom.eta,h21']
      have hI:=h.si
      revert hI
      cases zhu (toA to) x.Items with
      | inl e=>intro _; rfl
      | inr is=>
       intro his
       have ht:=zUq (f:=x.Func) (o:=x.Op) (b:=x.Bound) h.lens.2 his
       simp only [cond_true,cond_false,List.nil_append,ht.1,zgm]
       have hw:=zmf h.wf
       have hl:is.length=x.Items.length∧∀ w∈is,okA w.Ann∧∃ v∈x.Items,v.Value=w.Value:=his
       rw [zvX (zLI (by have:=h.lens.2; omega) (fun w hw'=>⟨(hl.2 w hw').1,by
        obtain ⟨v,hv,e⟩:=(hl.2 w hw').2
        rw [← e]; exact (zg6 hw.2.1.1 v hv).1⟩) hw.2.2.2.2.2.1 hw.2.2.2.2.2.2 hw.2.2.1).2]
end
theorem zSe:∀ (l:List Factor) (k:Nat),k<l.length→(l.getD k default).Exp.toNat≤szFs l
 | [],k,h=>by simp at h
 | f::r,0,_=>by show f.Exp.toNat≤_; rw [szFs]; omega
 | f::r,k+1,h=>by
  have:=zSe r k (by simpa using h)
  show (r.getD k default).Exp.toNat≤_
  rw [szFs]; omega
theorem zSU:∀ (l:List Term) (k:Nat),k<l.length→szFs (l.getD k default).Factors≤szTs l
 | [],k,h=>by simp at h
 | f::r,0,_=>by show szFs f.Factors≤_; rw [szTs]; omega
 | f::r,k+1,h=>by
  have:=zSU r k (by simpa using h)
  show szFs (r.getD k default).Factors≤_
  rw [szTs]; omega
section
variable (g:Atom→List Binding→Bool×(List Term×Int)) (l:List Binding)
theorem zXO (a:List Term) (i k:Nat) (hi:i<a.length) (hk:k<(a.getD i default).Factors.length) (out b:List Term) (hb:okA b) (N:Nat) (hN:((a.getD i default).Factors.getD k default).Exp=N) (hN':N≤1000000):
  ∀ (n j:Nat) (e:Int) (p:List Term) (s:Int⊕List Term),N<j+n→j≤N→GS s→RS s e p→∃ e' p',zrD g n a l out i p k b e j=(true,(a,l,out,(i:Int),p',(k:Int),e'))∧RS (sbd s (powS b (N - j))) e' p'
 | 0,j,e,p,s,h1,h2,_,_=>by omega
 | n+1,j,e,p,s,h1,h2,hs,hr=>by
  show ∃ e' p',(zry g a l out i p k b e j).ev (fun x y=>zrD g n x.1 x.2.1 x.2.2.1 x.2.2.2.1 x.2.2.2.2.1 x.2.2.2.2.2.1 x.2.2.2.2.2.2.1 x.2.2.2.2.2.2.2.1 x.2.2.2.2.2.2.2.2.1) (fun r=>(true,r)) (false,default)=_∧_
  unfold zry
  simp only [Wy.ev_i,Wy.ev_k,Wy.ev_h,Wy.ev_bn,Wy.ev_d,tT,hi,hk,hN]
  by_cases hj:j<N
  ·have hk:N - j=(N - (j+1))+1:=by omega
   cases s with
   | inl x=>
    obtain ⟨rfl,hx⟩:=hr
    have he:(e==(0:Int))=false:=by simp [hx]
    simp only [hj,decide_true,cond_true,he,cond_false]
    exact ⟨e,p,rfl,rfl,hx⟩
   | inr q=>
    obtain ⟨rfl,rfl⟩:=hr
    have hp:okA p:=hs
    simp only [hj,decide_true,cond_true,(zV1 hp hb).2,zT (show j<4611686018427387904 by omega),show ((0:Int)==0)=true from rfl]
    rw [hk]
    exact zXO a i _ hi (by assumption) out b hb N hN hN' n (j+1) (mulR p b).2 (mulR p b).1 (opS (mulR p b)) (by omega) (by omega) (zGn (zQm hp hb)) (zXF _)
  ·have hk:N - j=0:=by omega
   simp only [hj,decide_false,cond_false]
   rw [hk,zSs]
   exact ⟨e,p,rfl,hr⟩
theorem rr_7 (a:List Term) (hal:a.length≤1000000) (i:Nat) (hi:i<a.length) (hl:(a.getD i default).Factors.length≤1000000) (hg:AG g l (a.getD i default).Factors) (out:List Term):
  ∀ (n k:Nat) (p:List Term),(a.getD i default).Factors.length<k+n→k≤(a.getD i default).Factors.length→okA p→zsp g n a l out i p k=(true,match zd3 (toA l) ((a.getD i default).Factors.drop k) p with
   | .inl e=>.inl e
   | .inr q=>.inr (a,l,out,(i:Int),q))
 | 0,k,p,h1,h2,_=>by omega
 | n+1,k,p,h1,h2,hp=>by
  show (ztd g a l out i p k).ev (fun x y=>zsp g n x.1 x.2.1 x.2.2.1 x.2.2.2.1 x.2.2.2.2.1 x.2.2.2.2.2.1) (fun r=>(true,r)) (false,.inl default)=_
  unfold ztd
  by_cases hk:k<(a.getD i default).Factors.length
  ·obtain ⟨⟨hf,hG⟩,e0,e1⟩:=hg _ (zx hk)
   obtain ⟨N,hN⟩:∃ N:Nat,((a.getD i default).Factors.getD k default).Exp=(N:Int):=⟨_,(Int.toNat_of_nonneg e0).symm⟩
   have hsz:=Nat.le_trans (zSe _ k hk) (zSU a i hi)
   rw [hN,Int.toNat_natCast] at hsz
   obtain ⟨e',p',h11,hrs⟩:=zXO g l a i k hi hk out (ofS (zfm (toA l) ((a.getD i default).Factors.getD k default).Atom)).1 (zWh hG) N hN (by omega)
    ((a.length+l.length+out.length+(i:Int).toNat +p.length+(k:Int).toNat +(ofS (zfm (toA l) ((a.getD i default).Factors.getD k default).Atom)).1.length+(ofS (zfm (toA l) ((a.getD i default).Factors.getD k default).Atom)).2.toNat +Int.toNat (0:Int)+(1:Nat))+szTs a+szTs out+szTs p+szTs (ofS (zfm (toA l) ((a.getD i default).Factors.getD k default).Atom)).1) 0 _ p _ (by omega) (by omega) (zSo hG hp) (zTh hG p)
   rw [zQO,Nat.sub_zero] at hrs
   rw [show ((0:Nat):Int)=(0:Int) from rfl] at h11
   rw [zbu hk,zHl,hN,Int.toNat_natCast]
   simp only [Wy.ev_i,Wy.ev_k,Wy.ev_h,Wy.ev_bn,Wy.ev_d,tT,hi,hk,Atom.eta,hf,bne0]
   simp only [Int.toNat_natCast] at h11
   rw [h11]
   have hS:=hG
   revert hrs hS
   cases zfm (toA l) ((a.getD i default).Factors.getD k default).Atom with
   | inl x=>
    rintro ⟨rfl,hx⟩ _
    simp [hx,zv3]
   | inr b=>
    intro hrs hb
    simp only [zgm] at hrs ⊢
    have hq:=zPa (b:=b) hb N p hp
    revert hrs hq
    cases powS b N p with
    | inl x=>
     rintro ⟨rfl,hx⟩ _
     simp [hx,zv3]
    | inr q=>
     rintro ⟨rfl,rfl⟩ hq
     simp only [zgm,decide_true,Bool.not_true,cond_true,cond_false,zT (show k<4611686018427387904 by omega)]
     exact rr_7 a hal i hi hl hg out n (k+1) p' (by omega) (by omega) hq
  ·simp only [Wy.ev_i,Wy.ev_k,Wy.ev_h,Wy.ev_bn,Wy.ev_d,tT,hi,hk]
   rw [zcE hk,zJU]
theorem rr_3 (a:List Term) (hal:a.length≤1000000) (hg:∀ t∈a,t.Factors.length≤1000000∧AG g l t.Factors) (hok:∀ t∈a,∀ p,okA p→GS (zd3 (toA l) t.Factors p)):
  ∀ (n i:Nat) (s:List Term),a.length<i+n→i≤a.length→okA s→zs4 g n a l s i=(true,zcy (toA l) (a.drop i) s)
 | 0,i,s,h1,h2,_=>by omega
 | n+1,i,s,h1,h2,hs=>by
  show (zsD g a l s i).ev (fun x y=>zs4 g n x.1 x.2.1 x.2.2.1 x.2.2.2.1) (fun r=>(true,r)) (false,.inl default)=_
  unfold zsD
  by_cases hi:i<a.length
  ·have ht:=hg _ (zx hi)
   have hc:=zSy (a.getD i default).Coeff
   have hsz:=szTs_get' a i hi
   have h7:=rr_7 g l a hal i hi ht.1 ht.2 s ((a.length+l.length+s.length+(i:Int).toNat +(cstA (a.getD i default).Coeff).length+Int.toNat (0:Int)+(1:Nat))+szTs a+szTs s+szTs (cstA (a.getD i default).Coeff)) 0 (cstA (a.getD i default).Coeff) (by omega) (by omega) hc
   rw [show ((0:Nat):Int)=(0:Int) from rfl,List.drop_zero] at h7
   simp only [Int.toNat_natCast] at h7
   rw [zbu hi,zPt]
   simp only [Wy.ev_i,Wy.ev_k,Wy.ev_h,Wy.ev_bn,Wy.ev_d,tT,hi,(zS0 _).2]
   rw [h7]
   have hS:=hok _ (zx hi) _ hc
   revert hS
   cases zd3 (toA l) (a.getD i default).Factors (cstA (a.getD i default).Coeff) with
   | inl e=>intro _; rfl
   | inr p=>
    intro hp
    have hp:okA p:=hp
    simp only [zgm,isL,getR,cond_true,cond_false,(zWq hs hp).2,bne0]
    have hG:=zP0 hs hp
    unfold opS
    by_cases he:(addR s p).2=0
    ·rw [if_pos he,decide_eq_true he,zgm,zT (show i<4611686018427387904 by omega)]
     exact rr_3 a hal hg hok n (i+1) _ (by omega) (by omega) hG.1
    ·rw [if_neg he,decide_eq_false he]; rfl
  ·simp only [Wy.ev_i,Wy.ev_k,Wy.ev_h,Wy.ev_bn,Wy.ev_d,tT,hi]
   rw [zcE hi,zQV]
theorem rr_b (a:List Term) (hal:a.length≤1000000) (hg:∀ t∈a,t.Factors.length≤1000000∧AG g l t.Factors) (hok:∀ t∈a,∀ p,okA p→GS (zd3 (toA l) t.Factors p)):zop g a l=(true,ofS (zcy (toA l) a [])):=by
 unfold zop zuz
 have h3:=rr_3 g l a hal hg hok ((a.length+l.length+(0:Nat)+Int.toNat (0:Int)+(1:Nat))+szTs a+szTs []) 0 [] (by omega) (by omega) ziQ
 rw [show ((0:Nat):Int)=(0:Int) from rfl,List.drop_zero] at h3
 rw [Wy.fin_bn,h3]
 cases zcy (toA l) a [] <;>rfl
end
section
variable (g:List Term→List Binding→Bool×(List Term×Int)) (l:List Binding)
theorem rr_8 (x:Atom) (hl:x.Args.length≤1000000) (hg:∀ a∈x.Args,g a l=(true,ofS (zcy (toA l) a []))∧GS (zcy (toA l) a [])):
  ∀ (n i:Nat) (xs:List (List Term)),x.Args.length<i+n→i≤x.Args.length→xs.length≤i→zxF g n l i x xs=(true,match zjc (toA l) (x.Args.drop i) with
   | .inl e=>.inl e
   | .inr ys=>.inr (l,x,xs++ys))
 | 0,i,xs,h1,h2,_=>by omega
 | n+1,i,xs,h1,h2,hx=>by
  have hreach:zQ=70368744177664:=rfl
  show (zxe g l i x xs).ev (fun x y=>zxF g n x.1 x.2.2.2.1 y.1 y.2.1) (fun r=>(true,r)) (false,.inl default)=_
  unfold zxe
  by_cases hi:i<x.Args.length
  ·obtain ⟨hf,hG⟩:=hg _ (zx hi)
   have hb:decide ((xs.length+1)*24≤zQ)=true:=by simp only [decide_eq_true_eq]; omega
   rw [zbu hi,zNC]
   simp only [Wy.ev_i,Wy.ev_k,Wy.ev_h,Wy.ev_bn,Wy.ev_d,tT,hi,hf,bne0,List.length_singleton,hb]
   revert hG
   cases zcy (toA l) (x.Args.getD i default) [] with
   | inl e=>intro he; simp [ofS,show e≠0 from he,zv3]
   | inr b=>
    intro _
    simp only [ofS,decide_true,Bool.not_true,cond_false,zgm,zT (show i<4611686018427387904 by omega)]
    rw [rr_8 x hl hg n (i+1) (xs++[b]) (by omega) (by omega) (by simp; omega)]
    cases zjc (toA l) (x.Args.drop (i+1)) with
    | inl e=>rfl
    | inr ys=>simp [zgm]
  ·simp only [Wy.ev_i,Wy.ev_k,Wy.ev_h,Wy.ev_bn,Wy.ev_d,tT,hi]
   rw [zcE hi,zOX]; simp
theorem zXE (x:Atom) (as_:List (List Term)) (hl:x.Items.length≤1000000) (hg:∀ w∈x.Items,g w.Ann l=(true,ofS (zcy (toA l) w.Ann []))∧GS (zcy (toA l) w.Ann [])):
  ∀ (n i:Nat) (xs:List Weighted),x.Items.length<i+n→i≤x.Items.length→xs.length≤i→zvI g n l i x as_ xs=(true,match zhu (toA l) (x.Items.drop i) with
   | .inl e=>.inl e
   | .inr ys=>.inr (x,as_,xs++ys))
 | 0,i,xs,h1,h2,_=>by omega
 | n+1,i,xs,h1,h2,hx=>by
  have hreach:zQ=70368744177664:=rfl
  show (zvJ g l i x as_ xs).ev (fun x y=>zvI g n x.1 x.2.2.2.2.1 y.1 y.2.1 y.2.2.1) (fun r=>(true,r)) (false,.inl default)=_
  unfold zvJ
  by_cases hi:i<x.Items.length
  ·obtain ⟨hf,hG⟩:=hg _ (zx hi)
   have hb:decide ((xs.length+1)*56≤zQ)=true:=by simp only [decide_eq_true_eq]; omega
   rw [zbu hi,zLq]
   simp only [Wy.ev_i,Wy.ev_k,Wy.ev_h,Wy.ev_bn,Wy.ev_d,tT,hi,hf,bne0,List.length_singleton,hb]
   revert hG
   cases zcy (toA l) (x.Items.getD i default).Ann [] with
   | inl e=>intro he; simp [ofS,show e≠0 from he,zv3]
   | inr b=>
    intro _
    simp only [ofS,decide_true,Bool.not_true,cond_false,zgm,zT (show i<4611686018427387904 by omega)]
    rw [zXE x as_ hl hg n (i+1) (xs++[WeightedOf.mk (x.Items.getD i default).Value b]) (by omega) (by omega) (by simp; omega)]
    cases zhu (toA l) (x.Items.drop (i+1)) with
    | inl e=>rfl
    | inr ys=>simp [zgm]
  ·simp only [Wy.ev_i,Wy.ev_k,Wy.ev_h,Wy.ev_bn,Wy.ev_d,tT,hi]
   rw [zcE hi,zG1]; simp
theorem zWS {x:Atom} (h:vatA x=true) (hk:x.Kind=1∨x.Kind=2∨x.Kind=3):x.Items=[]:=by
 cases zOn.1 h <;>simp_all
theorem zYw (hto:okB l) (x:Atom) (h:XG g l x):ztz g x l=(true,ofS (zfm (toA l) x)):=by
 unfold ztz zzC
 have h8:=rr_8 g l x h.lens.1 h.ga ((l.length+Int.toNat (0:Int)+(0:Nat)+(1:Nat))+x.Args.length+x.Items.length) 0 [] (by omega) (by omega) (by simp)
 rw [show ((0:Nat):Int)=(0:Int) from rfl,List.drop_zero] at h8
 have h16:=fun xs:List (List Term)=>zXE g l x xs (by have:=h.lens.2; omega) h.gi ((l.length+Int.toNat (0:Int)+xs.length+(0:Nat)+(1:Nat))+x.Args.length+x.Items.length) 0 [] (by omega) (by omega) (by simp)
 simp only [show ((0:Nat):Int)=(0:Int) from rfl,List.drop_zero,List.nil_append] at h16
 have b0:=beqd x.Kind 0
 have b1:=beqd x.Kind 1
 have b2:=beqd x.Kind 2
 have b3:=beqd x.Kind 3
 rw [Atom.eta,zQ6]
 simp only [Wy.fin_i,Wy.fin_bn,Wy.fin_k,cond_true,h8,List.nil_append]
 by_cases hk0:x.Kind=0
 ·rw [b0,decide_eq_true hk0,if_pos hk0]
  obtain ⟨b,q,h1,h2⟩:=zXc hto x.Row
  simp only [cond_true,h1]
  rcases h2 with ⟨rfl,rfl⟩ | ⟨rfl,h2⟩
  ·rfl
  ·rw [h2]; simp only [cond_false,(zVV x.Row).2]; rfl
 ·rw [b0,decide_eq_false hk0,if_neg hk0,cond_false]
  have hA:=h.sa
  have hlen:=zQ0 h.va
  revert hA
  cases zjc (toA l) x.Args with
  | inl e=>intro _; rfl
  | inr xs=>
   intro hxs
   have hxl:xs.length=x.Args.length∧∀ a∈xs,okA a:=hxs
   have o0:=zzc hxl.2 0
   have o1:=zzc hxl.2 1
   simp only [isL,getR,cond_false,zgm,Atom.eta,h16]
   by_cases hk:x.Kind=1∨x.Kind=2∨x.Kind=3
   ·rw [zWS h.va hk,zG1]
    simp only [cond_true,cond_false,isL,getR]
    rcases hk with hk1 | hk2 | hk3
    ·have:=hlen.1 hk1
     rw [b1,decide_eq_true hk1,if_pos hk1]
     simp only [cond_true,show Int.toNat (0:Int)=0 from rfl,show Int.toNat (1:Int)=1 from rfl,(zSR o0 o1).2,zvX (zP7 o0 o1).2]
     simp [hxl.1,this]
    ·have:=hlen.2 (.inl hk2)
     have n1:¬ x.Kind=1:=by omega
     rw [b1,decide_eq_false n1,if_neg n1,cond_false,b2,decide_eq_true hk2,if_pos hk2]
     simp only [cond_true,show Int.toNat (0:Int)=0 from rfl,(zTu o0).2,zvX (zQz o0).2]
     simp [hxl.1,this]
    ·have:=hlen.2 (.inr hk3)
     have n1:¬ x.Kind=1:=by omega
     have n2:¬ x.Kind=2:=by omega
     rw [b1,decide_eq_false n1,if_neg n1,cond_false,b2,decide_eq_false n2,if_neg n2,cond_false,b3,decide_eq_true hk3,if_pos hk3]
     simp only [cond_true,show Int.toNat (0:Int)=0 from rfl,(zQR o0).2,zvX (zP4 o0).2]
     simp [hxl.1,this]
   ·have n1:¬ x.Kind=1:=fun e=>hk (.inl e)
    have n2:¬ x.Kind=2:=fun e=>hk (.inr (.inl e))
    have n3:¬ x.Kind=3:=fun e=>hk (.inr (.inr e))
    rw [if_neg n1,if_neg n2,if_neg n3]
    have hI:=h.si
    revert hI
    cases zhu (toA l) x.Items with
    | inl e=>intro _; rfl
    | inr is=>
     intro his
     have ht:=zUq (f:=x.Func) (o:=x.Op) (b:=x.Bound) h.lens.2 his
     simp only [cond_true,cond_false,isL,getR,b1,b2,b3,decide_eq_false n1,decide_eq_false n2,decide_eq_false n3,ht.2,zgm]
     have hw:=zmf h.wf
     have hl:is.length=x.Items.length∧∀ w∈is,okA w.Ann∧∃ v∈x.Items,v.Value=w.Value:=his
     rw [zvX (zLI (by have:=h.lens.2; omega) (fun w hw'=>⟨(hl.2 w hw').1,by
      obtain ⟨v,hv,e⟩:=(hl.2 w hw').2
      rw [← e]; exact (zg6 hw.2.1.1 v hv).1⟩) hw.2.2.2.2.2.1 hw.2.2.2.2.2.2 hw.2.2.1).2]
end
theorem zNy:∀ {l:List (List Term)} {a:List Term},a∈l→zd8 a≤zmP l
 | [],_,h=>by cases h
 | x::r,a,h=>by
  rw [zL8]
  rcases List.mem_cons.1 h with rfl | h
  ·omega
  ·have:=zNy h; omega
theorem zMo:∀ {l:List Weighted} {w:Weighted},w∈l→zd8 w.Ann≤zjm l
 | [],_,h=>by cases h
 | x::r,a,h=>by
  rw [zB7]
  rcases List.mem_cons.1 h with rfl | h
  ·omega
  ·have:=zMo h; omega
theorem zHk:∀ {l:List Factor} {f:Factor},f∈l→zzy f.Atom≤zfT l
 | [],_,h=>by cases h
 | x::r,a,h=>by
  rw [zGs]
  rcases List.mem_cons.1 h with rfl | h
  ·omega
  ·have:=zHk h; omega
theorem zPC:∀ {l:List Term} {t:Term},t∈l→zfT t.Factors≤zd8 l
 | [],_,h=>by cases h
 | x::r,a,h=>by
  rw [zG8]
  rcases List.mem_cons.1 h with rfl | h
  ·omega
  ·have:=zPC h; omega
theorem zLK:∀ {l:List Weighted},(∀ w∈l,w.Ann≠[])→l.length≤zjm l
 | [],_=>by simp
 | x::r,h=>by
  rw [zB7]
  have:=zLK (l:=r) fun w hw=>h w (by simp [hw])
  have h1:1≤zd8 x.Ann:=by
   have:=h x (by simp)
   cases hx:x.Ann with
   | nil=>exact absurd hx this
   | cons t r=>rw [zG8]; omega
  simp only [List.length_cons]
  omega
mutual
def zLi:Atom→Prop
 | ⟨_,_,a,_,i,_,_⟩=>i.length<20∧zIv a∧zDp i
def zwl:List Factor→Prop
 | []=>True
 | ⟨x,_⟩::r=>zLi x∧zwl r
def ztC:List Term→Prop
 | []=>True
 | ⟨_,fs⟩::r=>zwl fs∧ztC r
def zIv:List (List Term)→Prop
 | []=>True
 | a::r=>ztC a∧zIv r
def zDp:List Weighted→Prop
 | []=>True
 | ⟨_,a⟩::r=>ztC a∧zDp r
end
theorem zPH (x:Atom):zLi x↔x.Items.length<20∧zIv x.Args∧zDp x.Items:=by cases x; rw [zLi]
theorem zBz:∀ {l:List Factor},zwl l↔∀ f∈l,zLi f.Atom
 | []=>by rw [zwl]; simp
 | ⟨x,e⟩::r=>by rw [zwl,zBz (l:=r)]; simp
theorem zL7:∀ {l:List Term},ztC l↔∀ t∈l,zwl t.Factors
 | []=>by rw [ztC]; simp
 | ⟨x,e⟩::r=>by rw [ztC,zL7 (l:=r)]; simp
theorem zJv:∀ {l:List (List Term)},zIv l↔∀ a∈l,ztC a
 | []=>by rw [zIv]; simp
 | a::r=>by rw [zIv,zJv (l:=r)]; simp
theorem zGG:∀ {l:List Weighted},zDp l↔∀ w∈l,ztC w.Ann
 | []=>by rw [zDp]; simp
 | ⟨x,e⟩::r=>by rw [zDp,zGG (l:=r)]; simp
theorem zQX {m:Nat} {a:List Term} (h:zbA (m+1) a=true):zmy a=true∧∀ t∈a,t.Factors.length≤64∧∀ f∈t.Factors,(1≤f.Exp∧f.Exp≤64)∧f.Atom.Items.length≤1024∧zdT (zbA m) f.Atom=true:=by
 have hw:=zAt h
 refine ⟨hw,fun t ht=> ?_⟩
 obtain ⟨l1,l2⟩:=(ztN hw).2.2.2 t ht
 refine ⟨l1,fun f hf=> ?_⟩
 obtain ⟨⟨e1,_⟩,hv⟩:=zme (zqf h ht).2 hf
 exact ⟨⟨e1,(l2 f hf).1⟩,(l2 f hf).2,hv⟩
theorem zNY:∀ (m:Nat) (a:List Term),zbA m a=true→zbA (m+1) a=true
 | 0,_,h=>by cases h
 | m+1,a,h=>by
  have h':vAnn (zdT (zbA m)) a=true:=h
  obtain ⟨h1,h2,h3⟩:=zSM.1 h'
  refine (zSM (vat:=zdT (zbA (m+1)))).2 ⟨h1,h2,fun t ht=>⟨(h3 t ht).1,(h3 t ht).2.1,fun f hf=>⟨((h3 t ht).2.2 f hf).1, ?_⟩⟩⟩
  exact zdp.2 ((zdp.1 ((h3 t ht).2.2 f hf).2).imp (zNY m))
theorem zWJ:∀ {m:Nat} {a:List Term},zbA m a=true→zbB a=true:=by
 intro m a h
 have key:∀ k,zbA (m+k) a=true:=fun k=>by
  induction k with
  | zero=>exact h
  | succ k ih=>exact zNY _ _ ih
 exact zSd (key 9) (by omega)
theorem zXr {m:Nat} {x:Atom} (h:zdT (zbA m) x=true) (hm:m≤99):vatA x=true:=by
 refine zOn.2 ((zdp.1 h).imp fun a ha=> ?_)
 exact zWJ ha
theorem zNr {V:List Term→Bool} {x:Atom} (h:zdT V x=true):(∀ a∈x.Args,V a=true)∧∀ w∈x.Items,V w.Ann=true∧w.Ann≠[]:=by
 constructor
 ·cases zdp.1 h <;>simp_all
 ·cases zdp.1 h <;>simp_all
theorem zN7:∀ (m:Nat) (a:List Term),zbA m a=true→zd8 a≤38→ztC a
 | 0,_,h,_=>by cases h
 | m+1,a,h,hs=>by
  obtain ⟨_,w2⟩:=zQX h
  refine zL7.2 fun t ht=>zBz.2 fun f hf=>(zPH _).2 ?_
  have hv:=((w2 t ht).2 f hf).2.2
  have h1:=zHk hf
  have h2:=zPC ht
  have h3:=zPl f.Atom
  obtain ⟨hargs,hitems⟩:=zNr hv
  refine ⟨by have:=zLK fun w hw=>(hitems w hw).2; omega,zJv.2 fun b hb=>zN7 m b (hargs b hb) (by have:=zNy hb; omega),zGG.2 fun w hw=>zN7 m w.Ann (hitems w hw).1 (by have:=zMo hw; omega)⟩
theorem zQc {l:List Binding} (hl:okB l):∀ n,
  (∀ m a,zbA m a=true→m≤99→zfs a→ztC a→2*m≤n→(zja n a l=(true,ofS (zcy (toA l) a []))∧zol n a l=(true,ofS (zcy (toA l) a [])))∧GS (zcy (toA l) a []))∧
  (∀ m x,zdT (zbA m) x=true→m≤99→zfr x→x.Items.length≤1024→zLi x→2*m+1≤n→(zgU n x l=(true,ofS (zfm (toA l) x))∧zs9 n x l=(true,ofS (zfm (toA l) x)))∧GS (zfm (toA l) x))
 | 0=>by
  refine ⟨fun m a h _ _ _ hm=> ?_,fun m x _ _ _ _ _ hm=>by omega⟩
  have:m=0:=by omega
  subst this; cases h
 | n+1=>by
  obtain ⟨h1,h2⟩:=zQc hl n
  have ht:okT (toA l):=zVL hl.2
  refine ⟨fun m a h h99 hw hs hm=> ?_,fun m x h h99 hw hi hs hm=> ?_⟩
  ·cases m with
   | zero=>cases h
   | succ m=>
    obtain ⟨w1,w2⟩:=zQX h
    obtain ⟨a1,a2,a3,a4⟩:=ztN w1
    have hwt:=fun t (ht:t∈a)=>zqw (zoo hw t ht)
    have hwf:=fun t (ht:t∈a) f (hf:f∈t.Factors)=>(zmX (zlQ (hwt t ht).2.1 f hf)).1
    have hA:∀ t∈a,∀ f∈t.Factors,((zgU n f.Atom l=(true,ofS (zfm (toA l) f.Atom))∧zs9 n f.Atom l=(true,ofS (zfm (toA l) f.Atom)))∧GS (zfm (toA l) f.Atom)):=fun t ht f hf=>
     h2 m f.Atom ((w2 t ht).2 f hf).2.2 (by omega) (hwf t ht f hf) ((w2 t ht).2 f hf).2.1 (zBz.1 (zL7.1 hs t ht) f hf) (by omega)
    have hE:=fun t (ht:t∈a) f (hf:f∈t.Factors)=>((w2 t ht).2 f hf).1
    have hok:∀ t∈a,∀ p,okA p→GS (zd3 (toA l) t.Factors p):=fun t ht' p hp=>zD4 ht t.Factors 9 (fun f hf=>⟨hwf t ht' f hf,zqm ((w2 t ht').2 f hf).2.2 ((w2 t ht').2 f hf).2.1⟩) p hp
    have hG:GS (zcy (toA l) a []):=zI5 ht a 9 hw (fun t ht f hf=>zqm ((w2 t ht).2 f hf).2.2 ((w2 t ht).2 f hf).2.1) [] ziQ
    refine ⟨⟨?_, ?_⟩,hG⟩
    ·rw [zFn]
     exact rp_b _ l a (by omega) (fun t ht=>⟨by have:=(w2 t ht).1; omega,fun f hf=>⟨⟨(hA t ht f hf).1.1,(hA t ht f hf).2⟩,by have:=(hE t ht f hf).1; omega,by have:=(hE t ht f hf).2; omega⟩⟩) hok
    ·rw [zMs]
     exact rr_b _ l a (by omega) (fun t ht=>⟨by have:=(w2 t ht).1; omega,fun f hf=>⟨⟨(hA t ht f hf).1.2,(hA t ht f hf).2⟩,by have:=(hE t ht f hf).1; omega,by have:=(hE t ht f hf).2; omega⟩⟩) hok
  ·have hf:=zqm h hi
   have hw':=zmf hw
   have hv:=zXr h h99
   obtain ⟨h20,s1,s2⟩:=(zPH x).1 hs
   obtain ⟨hargs,hitems⟩:=zNr h
   have ga:=fun a (ha:a∈x.Args)=>h1 m a (hargs a ha) h99 (zis hw'.1.1 a ha).1 (zJv.1 s1 a ha) (by omega)
   have gi:=fun w (hw:w∈x.Items)=>h1 m w.Ann (hitems w hw).1 h99 (zg6 hw'.2.1.1 w hw).2.1 (zGG.1 s2 w hw) (by omega)
   have sa:=zLN ht x.Args 9 (fun a ha=>(zis hw'.1.1 a ha).1) hf.2.1
   have si:=zIM ht x.Items 9 (fun w hw=>(zg6 hw'.2.1.1 w hw).2.1) fun w hw=>(hf.2.2 w hw).2
   refine ⟨⟨?_, ?_⟩,zRc ht x 9 hw hf⟩
   ·rw [zAa]
    exact zX2 _ l hl x ⟨hv,⟨hf.1.1,h20⟩,fun a ha=>⟨(ga a ha).1.1,(ga a ha).2⟩,fun w hw=>⟨(gi w hw).1.1,(gi w hw).2⟩,sa,si,hw⟩
   ·rw [zOV]
    exact zYw _ l hl x ⟨hv,⟨hf.1.1,h20⟩,fun a ha=>⟨(ga a ha).1.2,(ga a ha).2⟩,fun w hw=>⟨(gi w hw).1.2,(gi w hw).2⟩,sa,si,hw⟩
def subR (a:List Term) (l:List Binding):List Term×Int:=opR (zbB a&&l.all fun b=>zbB b.To) (ofS (zcy (toA l) a []))
theorem zZH {l:List Binding} (h:okB l):zbU l=(true, !l.all fun b=>zbB b.To):=by
 unfold zbU zdL
 have:zc2 l=IG (fun (_:Unit) x=>zgT x) (l.length+(Int.ofNat l.length).toNat +Int.toNat (0:Int)+(1:Nat)) () l:=rfl
 rw [zmB (P:=fun b=> !zbB b.To) (this.trans (zJw _ _ _ _ _ (by have:=h.1; omega) (fun x hx=>by
  unfold zgT zlO
  rw [Wy.fin_bn,(h.2 x hx).valid]; rfl) (by omega)))]
 simp [List.all_eq_not_any_not]
theorem zXy {a:List Term} {l:List Binding} (h:okB l):∀ (n i:Nat),l.length<i+n→i≤l.length→zrC n a l i=(true,if ((l.drop i).all fun b=>zbB b.To)=true then .inr (a,l) else .inl 1)
 | 0,i,h1,h2=>by omega
 | n+1,i,h1,h2=>by
  have hlen:=h.1
  show (zrq a l i).ev (fun x y=>zrC n x.1 x.2.1 x.2.2.1) (fun r=>(true,r)) (false,.inl default)=_
  unfold zrq
  by_cases hi:i<l.length
  ·have hb:=h.2 _ (zx hi)
   rw [zbu hi,List.all_cons]
   simp only [Wy.ev_i,Wy.ev_k,Wy.ev_h,Wy.ev_bn,Wy.ev_d,tT,hi,hb.rvalid]
   cases zbB (l.getD i default).To with
   | false=>rfl
   | true=>
    simp only [Bool.not_true,cond_false,Bool.true_and,zT (show i<4611686018427387904 by omega)]
    exact zXy h n (i+1) (by omega) (by omega)
  ·simp only [Wy.ev_i,Wy.ev_k,Wy.ev_h,Wy.ev_bn,Wy.ev_d,tT,hi]
   rw [zcE hi]; rfl
theorem zRR {a:List Term} {l:List Binding} (oa:okA a) (ha:zbB a=true→ztC a) (h:okB l):ziG a l=(true,subR a l)∧znh a l=(true,subR a l):=by
 have key:zbB a=true→(zsz a l=(true,ofS (zcy (toA l) a []))∧zBX a l=(true,ofS (zcy (toA l) a []))):=fun hv=>((zQc h 1000).1 9 a (zJt hv (Nat.le_refl 9)) (by omega) oa.2.1 (ha hv) (by omega)).1
 constructor
 ·unfold ziG znX subR
  simp only [Wy.fin_i,Wy.fin_bn,Wy.fin_k,oa.valid,cond_true,zZH h]
  cases hv:zbB a with
  | false=>rfl
  | true=>
   cases (l.all fun b=>zbB b.To) with
   | false=>rfl
   | true=>
    simp only [Bool.not_true,cond_false,(key hv).1,cond_true]
    rfl
 ·unfold znh zto subR
  have h4:=zXy (a:=a) h (a.length+l.length+Int.toNat (0:Int)+(1:Nat)) 0 (by omega) (by omega)
  rw [show ((0:Nat):Int)=(0:Int) from rfl,List.drop_zero] at h4
  simp only [Wy.fin_i,Wy.fin_bn,Wy.fin_k,oa.rvalid,cond_true,h4]
  cases hv:zbB a with
  | false=>rfl
  | true=>
   cases (l.all fun b=>zbB b.To) with
   | false=>rfl
   | true=>
    simp only [if_true,isL,getR,Bool.not_true,cond_false,(key hv).2,cond_true]
    rfl
theorem zYG {a:List Term} {l:List Binding} (oa:okA a) (ha:zbB a=true→ztC a) (h:okB l):okR (subR a l):=zHz fun hv=>by
 rw [Bool.and_eq_true] at hv
 have hG:=((zQc h 1000).1 9 a (zJt hv.1 (Nat.le_refl 9)) (by omega) oa.2.1 (ha hv.1) (by omega)).2
 revert hG
 cases zcy (toA l) a [] with
 | inl e=>exact fun _=>⟨ziQ,.inr rfl⟩
 | inr b=>exact fun hb=>⟨hb,.inl rfl⟩
theorem zY1 (a:List Term) (l:List Binding) (ha:wf23 a) (hl:wf59 l):∃ q,zAU a l=(true,q)∧(q=true→(zq 12 a∧zd8 a≤30)∧l.length≤4∧∀ b∈l,okA b.To):=by
 have key:∀ (n i:Nat),l.length<i+n→i≤l.length→∃ x,zE3 n a l i=(true,x)∧(x=.inl false∨(x=.inr (a,l)∧∀ b∈l.drop i,okA b.To)):=by
  intro n
  induction n with
  | zero=>intro i h1 h2; omega
  | succ n ih=>
   intro i h1 h2
   have hlen:l.length≤140737488351232:=hl.2
   show ∃ x,(zEQ a l i).ev (fun x y=>zE3 n x.1 x.2.1 x.2.2.1) (fun r=>(true,r)) (false,.inl default)=(true,x)∧_
   unfold zEQ
   by_cases hi:i<l.length
   ·have hw:=(hl.1 _ (zx hi)).2
    obtain ⟨q,q1,q2⟩:=zVZ 12 (by omega) [(l.getD i default).To] (by simp) (fun x hx=>by
     rw [List.mem_singleton] at hx; subst hx; exact hw)
    replace q1:zp7 (12:Int) [(l.getD i default).To]=(true,q):=q1
    simp only [Wy.ev_i,Wy.ev_k,Wy.ev_h,Wy.ev_bn,Wy.ev_d,tT,hi,q1]
    cases q with
    | false=>exact ⟨_,rfl,.inl rfl⟩
    | true=>
     simp only [Bool.not_true,cond_false,zT (show i<4611686018427387904 by omega)]
     obtain ⟨x,x1,x2⟩:=ih (i+1) (by omega) (by omega)
     refine ⟨x,x1, ?_⟩
     rcases x2 with x2 | ⟨x2,x3⟩
     ·exact .inl x2
     ·refine .inr ⟨x2,fun b hb=> ?_⟩
      rw [zbu hi] at hb
      rcases List.mem_cons.1 hb with rfl | hb
      ·exact zUC (by omega) (q2 rfl _ (by simp)) hw
      ·exact x3 b hb
   ·simp only [Wy.ev_i,Wy.ev_k,Wy.ev_h,Wy.ev_bn,Wy.ev_d,tT,hi]
    exact ⟨_,rfl,.inr ⟨rfl,fun b hb=>by rw [zcE hi] at hb; cases hb⟩⟩
 obtain ⟨x,x1,x2⟩:=key (a.length+l.length+Int.toNat (0:Int)+(1:Nat)) 0 (by omega) (by omega)
 rw [show ((0:Nat):Int)=(0:Int) from rfl] at x1
 rw [List.drop_zero] at x2
 obtain ⟨q,q1,q2⟩:=zVZ 30 (by omega) [a] (by simp) (fun x hx=>by
  rw [List.mem_singleton] at hx; subst hx; exact ha)
 replace q1:zp7 (30:Int) [a]=(true,q):=q1
 have h4:decide (Int.ofNat l.length≤4)=decide (l.length≤4):=zsG _ 4
 unfold zAU zG0
 simp only [Wy.fin_i,Wy.fin_bn,Wy.fin_k,x1,cond_true]
 rcases x2 with rfl | ⟨rfl,x2⟩
 ·exact ⟨_,rfl,fun h=>by cases h⟩
 ·simp only [isL,getR,cond_false,q1,cond_true]
  show ∃ q_1,(bif decide (Int.ofNat l.length≤4) then (true,q) else (true,false))=(true,q_1)∧_
  rw [h4]
  by_cases hl4:l.length≤4
  ·rw [decide_eq_true hl4]
   exact ⟨q,rfl,fun h=>⟨q2 h a (by simp),hl4,x2⟩⟩
  ·rw [decide_eq_false hl4]
   exact ⟨_,rfl,fun h=>by cases h⟩
theorem zLo (a:List Term) (l:List Binding) (ha:wf23 a) (hl:wf59 l):zdN a l=(true,true):=by
 obtain ⟨q,h1,h2⟩:=zY1 a l ha hl
 unfold zdN zjv
 rw [Wy.fin_bn,h1]
 cases q with
 | false=>rfl
 | true=>
  obtain ⟨f,hl4,hb⟩:=h2 rfl
  have oa:=zUC (n:=30) (by omega) f ha
  have ob:okB l:=⟨by omega,hb⟩
  have hm:zbB a=true→ztC a:=fun hv=>zN7 100 a hv (by have:=f.2; omega)
  have hs:=zRR oa hm ob
  simp only [Wy.fin_i,Wy.fin_bn,Wy.fin_k,cond_true,Bool.not_true,cond_false,hs.1,hs.2,(zYG oa hm ob).same]
end Go.Proofs.YtnolcogncjijpaaGreatDoor
end
