/- Texts of this claim, joined (the program, its functions in plain words, and what they compute). -/
import Derived.Test.YtnolcogncjijpaaGreatDoorGC8
set_option autoImplicit false
set_option linter.unusedVariables false
set_option linter.unusedSectionVars false
set_option linter.unusedSimpArgs false
set_option maxRecDepth 1000000
set_option maxHeartbeats 0
/- Sums and products of valid annotations: both sides compute the same. -/
noncomputable section
namespace Go.Proofs.YtnolcogncjijpaaGreatDoor
open Go Go.Ab
def GF (f:Fc):Prop:=(zj3 (zeQ 9) f.At=true/\ztC f.At/\f.At.Items.length<=1024)/\1<=f.Exp/\f.Exp<=1000000
def GT (t:Term):Prop:=cOK t/\t.Fs.length<=1000/\∀ f∈t.Fs,GF f
theorem GF.gF {f:Fc} (h:GF f):gF (zeQ 9) f:=⟨h.1.1,h.1.2.1,by constructor <;>(have:=h.2; omega)⟩
theorem GT.inj {s t:Term} (hs:GT s) (ht:GT t) (h:bs (txL s.Fs)=bs (txL t.Fs)):s.Fs=t.Fs:=
 zZR (λf hf=>(hs.2.2 f hf).gF) (λf hf=>(ht.2.2 f hf).gF) (z0w h)
def zMv (a:yB) (e:Int) (b:yB) (f:Int):Wy0 (Bool):=.i (e==f) (.bn (zq3 a b) λr0=>.i (r0) (.i (e==0) (.k true) (.k (Int.ofNat a.length==0))) (.k false)) (.k false)
def zJh (a:yB) (e:Int) (b:yB) (f:Int):=(zMv a e b f).fin default
mutual
theorem zVD:∀ x:At,zmz x<=zqb x
 | ⟨_,_,a,_,i,_,_⟩=>by
  rw [zmz,zqb];have h1:=zOU a;have h2:=zL3 i;omega
theorem zGJ:∀ l:yC,zcr l<=zbS l
 | []=>by rw [zcr,zbS]; exact Nat.le_refl _
 | ⟨x,_⟩::r=>by
  rw [zcr,zbS];have h1:=zVD x;have h2:=zGJ r;omega
theorem zBV:∀ l:yB,zY l<=zbM l
 | []=>by rw [zY,zbM]; exact Nat.le_refl _
 | ⟨_,fs⟩::r=>by
  rw [zY,zbM];have h1:=zGJ fs;have h2:=zBV r;omega
theorem zOU:∀ l:yA,zff l<=zeU l
 | []=>by rw [zff,zeU]; exact Nat.le_refl _
 | a::r=>by
  rw [zff,zeU];have h1:=zBV a;have h2:=zOU r;omega
theorem zL3:∀ l:yD,zd2 l<=l.length+zcX l
 | []=>by rw [zd2,zcX]; exact Nat.zero_le _
 | ⟨_,a⟩::r=>by
  rw [zd2,zcX];have h1:=zBV a;have h2:=zL3 r;simp only [qf];omega
end
theorem zZS {d:Nat} {a:yB} {e:Int} (h:zP d a) (hd:d<=100) (he:e=0\/a=[]):zJh a e a e=(true,true):=by
 unfold zJh zMv;simp only [Wy.fin_i,Wy.fin_bn,Wy.fin_k,zKo h hd,zpc,decide_true,cond_true];rcases he with rfl | rfl
 ·simp
 ·cases decide (e=0) <;>simp
def okA (a:yB):Prop:=(zP 12 a/\zY a<=4611686018427387904)/\zjY a/\a.length<=zby
theorem okA.valid {a:yB} (h:okA a):zb8 a=(true,zRy a):=zX6 h.1.1 (by omega) h.1.2
theorem okA.rvalid {a:yB} (h:okA a):zyU a=(true,zRy a):=zWQ h.1.1 (by omega) h.1.2
end Go.Proofs.YtnolcogncjijpaaGreatDoor
/- The variables of an annotation: by the program and by the reference. -/
set_option maxRecDepth 100000
namespace Go.Proofs.YtnolcogncjijpaaGreatDoor
open Go Go.Ab
theorem zYd (L M:yE):(nI M).foldl (λo x=>znX cI x o) (nI L)=nI (L++M):=by
 have h:=zCi zi5 (nI M) (nI L) (zEQ zi5 L);refine zPM zi5 h.1 λz=> ?_
 rw [h.2 z,zzB zi5,zzB zi5,List.mem_append]
theorem z0h (L:yE) (x:RowID):znX cI x (nI L)=nI (L++[x]):=by
 refine zPM zi5 (zPI zi5 x (zEQ zi5 L)) λz=> ?_
 rw [zJr zi5,zzB zi5,List.mem_append,qh];exact Or.comm
theorem zHi (L:yE):(nI L).length<=L.length:=zUK zi5 L
theorem z0S:nI []=[]:=rfl
def vars (a:yB):yE:=nI (zik a)
theorem zZ5 {d:Nat} {a:yB} (h:zP d a) (hd:d<=1000) (ht:zbM a<=300000):ziL a=(true,vars a):=by
 have hl:=zoQ a;unfold ziL zu2;have e1:=zYY h hd [] (by simp only [List.length_nil]; omega)
 rw [List.nil_append] at e1;have e2:=zLq (zik a) (by omega)
 simp only [Wy.fin_bn,e1,e2,cond_true]; rfl
section
variable (g:yB->Bool×yE)
def rvG (b:yB):Prop:=g b=(true,vars b)
variable (a:yB) (i k:Int)
theorem zZh (x:At) (L:yE) (hg:∀ b∈x.Ag,rvG g b) (hA:x.Ag.length<=1000000) (ho:L.length+zeU x.Ag<=300000) (n:Nat) (hn:x.Ag.length<n):
  zp4 g n a (nI L) i k 0 x=(true,(a,nI (L++zo8 x.Ag),i,k,x)):=by
 have hh:=zFq (W:=zqv g) (z:=default) x.Ag (λj L=>(a,nI L,i,k,(),(j:Int),())) (λ_ _=>(x,())) (λL b=>L++zik b) (λL=>(a,nI L,i,k,x)) (λj L=>L.length+zeU (x.Ag.drop j)<=300000)
  (λj L hj hI=>by
   rw [zbb hj,zeU] at hI;have e:g (x.Ag.getD j default)=_:=hg _ (zX hj);have hv:=zoQ (x.Ag.getD j default);have l1:=zHi L;have l2:(vars (x.Ag.getD j default)).length<=_:=zHi _;have er:=zUQ (nI L) (vars (x.Ag.getD j default)) (by omega) (by omega)
   have ei:(vars (x.Ag.getD j default)).foldl (λo x=>znX cI x o) (nI L)=nI (L++zik (x.Ag.getD j default)):=zYd _ _
   rw [ei] at er;refine ⟨by rw [qg]; omega,λH K D=> ?_⟩
   show (zic g a (nI L) i k j x).ev H K D=_;unfold zic;simp only [Wy.ev_i,Wy.ev_k,Wy.ev_h,Wy.ev_bn,Wy.ev_d,tT,hj,e,er,cond_true,At.eta,zbi (show j<4611686018427387904 by omega)])
  (λL hI H K D=>by
   show (zic g a (nI L) i k x.Ag.length x).ev H K D=_;unfold zic;simp only [Wy.ev_i,Wy.ev_k,tT,Nat.lt_irrefl,At.eta]) n L hn (by simpa using ho)
 rw [zIH] at hh;exact hh
theorem zZp (x:At) (L:yE) (hg:∀ w∈x.Items,rvG g w.Ann) (hA:x.Items.length<=1000000) (ho:L.length+zcX x.Items<=300000) (n:Nat) (hn:x.Items.length<n):
  zqa g n a (nI L) i k 0 x=(true,(a,nI (L++zqi x.Items),i,k)):=by
 have hh:=zFq (W:=zpU g) (z:=default) x.Items (λj L=>(a,nI L,i,k,(),(j:Int),())) (λ_ _=>(x,())) (λL w=>L++zik w.Ann) (λL=>(a,nI L,i,k)) (λj L=>L.length+zcX (x.Items.drop j)<=300000)
  (λj L hj hI=>by
   have et:zcX (x.Items.drop j)=(x.Items.getD j default).Value.Text.size+zbM (x.Items.getD j default).Ann+zcX (x.Items.drop (j+1)):=by rw [zbb hj,zcX]
   have e:g (x.Items.getD j default).Ann=_:=hg _ (zX hj);have hv:=zoQ (x.Items.getD j default).Ann;have l1:=zHi L;have l2:(vars (x.Items.getD j default).Ann).length<=_:=zHi _;have er:=zUQ (nI L) (vars (x.Items.getD j default).Ann) (by omega) (by omega)
   have ei:(vars (x.Items.getD j default).Ann).foldl (λo x=>znX cI x o) (nI L)=nI (L++zik (x.Items.getD j default).Ann):=zYd _ _
   rw [ei] at er;refine ⟨by rw [qg]; omega,λH K D=> ?_⟩
   show (zib g a (nI L) i k j x).ev H K D=_;unfold zib;simp only [Wy.ev_i,Wy.ev_k,Wy.ev_h,Wy.ev_bn,Wy.ev_d,tT,hj,e,er,cond_true,At.eta,zbi (show j<4611686018427387904 by omega)])
  (λL hI H K D=>by
   show (zib g a (nI L) i k x.Items.length x).ev H K D=_;unfold zib;simp only [Wy.ev_i,Wy.ev_k,tT,Nat.lt_irrefl,At.eta]) n L hn (by simpa using ho)
 rw [zGs] at hh;exact hh
def rvX (x:At):Prop:=(x.Ag.length<=1000000/\x.Items.length<=1000000)/\(∀ b∈x.Ag,rvG g b)/\∀ w∈x.Items,rvG g w.Ann
theorem z1B (i:Nat) (hi:i<a.length) (L:yE) (hg:∀ f∈(a.getD i default).Fs,rvX g f.At) (hl:(a.getD i default).Fs.length<=1000000) (ho:L.length+(a.getD i default).Fs.length+zbS (a.getD i default).Fs<=300000) (n:Nat) (hn:(a.getD i default).Fs.length<n):
  zwW g n a (nI L) i 0=(true,(a,nI (L++zia (a.getD i default).Fs),(i:Int))):=by
 have hh:=zFq (W:=zrw g) (z:=default) (a.getD i default).Fs (λk L=>(a,nI L,(i:Int),(k:Int),())) (λ_ _=>()) (λL x=>L++zz4 x.At) (λL=>(a,nI L,(i:Int))) (λk L=>L.length+((a.getD i default).Fs.length - k)+zbS ((a.getD i default).Fs.drop k)<=300000)
  (λk L hk hI=>by
   obtain ⟨⟨hA,hB⟩,h1,h2⟩:=hg _ (zX hk);have et:zbS ((a.getD i default).Fs.drop k)=zqb ((a.getD i default).Fs.getD k default).At+zbS ((a.getD i default).Fs.drop (k+1)):=by rw [zbb hk,zbS]
   have ea:=zBS ((a.getD i default).Fs.getD k default).At;have hlen:=zIO ((a.getD i default).Fs.getD k default).At;have hv:=zBN ((a.getD i default).Fs.getD k default).At.Ag;have l1:=zHi L;refine ⟨by rw [qg]; omega,λH K D=> ?_⟩
   show (ziK g a (nI L) i k).ev H K D=_;unfold ziK;by_cases hK:((a.getD i default).Fs.getD k default).At.Kind=0
   ·have ek:(((a.getD i default).Fs.getD k default).At.Kind==(0:Int))=true:=by rw [hK]; rfl
    have ep:=zQK (nI L) ((a.getD i default).Fs.getD k default).At.Row (by omega)
    rw [z0h] at ep;have e12:=λn hn=>zZh g a (i:Int) (k:Int) ((a.getD i default).Fs.getD k default).At (L++[((a.getD i default).Fs.getD k default).At.Row]) h1 hA (by rw [qg,List.length_singleton]; omega) n hn
    have e16:=λn hn=>zZp g a (i:Int) (k:Int) ((a.getD i default).Fs.getD k default).At ((L++[((a.getD i default).Fs.getD k default).At.Row])++zo8 ((a.getD i default).Fs.getD k default).At.Ag) h2 hB (by rw [qg,qg,List.length_singleton]; omega) n hn
    simp only [Wy.ev_i,Wy.ev_k,Wy.ev_h,Wy.ev_bn,Wy.ev_d,tT,hi,hk,ek,ep,cond_true,At.eta];rw [e12 _ (by omega)]
    simp only [cond_true,At.eta,Int.toNat_natCast];rw [e16 _ (by omega)]
    simp only [cond_true,zbi (show k<4611686018427387904 by omega),zMN,if_pos hK,List.append_assoc]
   ·have ek:(((a.getD i default).Fs.getD k default).At.Kind==(0:Int))=false:=beq_false_of_ne hK;have e12:=λn hn=>zZh g a (i:Int) (k:Int) ((a.getD i default).Fs.getD k default).At L h1 hA (by omega) n hn
    have e16:=λn hn=>zZp g a (i:Int) (k:Int) ((a.getD i default).Fs.getD k default).At (L++zo8 ((a.getD i default).Fs.getD k default).At.Ag) h2 hB (by rw [qg]; omega) n hn
    simp only [Wy.ev_i,Wy.ev_k,Wy.ev_h,Wy.ev_bn,Wy.ev_d,tT,hi,hk,ek,cond_true,cond_false,At.eta];rw [e12 _ (by omega)]
    simp only [cond_true,At.eta,Int.toNat_natCast];rw [e16 _ (by omega)]
    simp only [cond_true,zbi (show k<4611686018427387904 by omega),zMN,if_neg hK,List.append_assoc,List.nil_append])
  (λL hI H K D=>by
   show (ziK g a (nI L) i (a.getD i default).Fs.length).ev H K D=_;unfold ziK;simp only [Wy.ev_i,Wy.ev_k,tT,hi,Nat.lt_irrefl]) n L hn (by simpa using ho)
 rw [zA5] at hh;exact hh
theorem z1q (L:yE) (hg:∀ t∈a,t.Fs.length<=1000000/\∀ f∈t.Fs,rvX g f.At) (hl:a.length<=1000000) (ho:L.length+zbM a<=300000) (n:Nat) (hn:a.length<n):
  zxd g n a (nI L) 0=(true,nI (L++zik a)):=by
 have hh:=zFq (W:=zrc g) (z:=default) a (λi L=>(a,nI L,(i:Int),())) (λ_ _=>()) (λL t=>L++zia t.Fs) (λL=>nI L) (λi L=>L.length+zbM (a.drop i)<=300000)
  (λi L hi hI=>by
   obtain ⟨hF,hx⟩:=hg _ (zX hi);have et:zbM (a.drop i)=1+(a.getD i default).Fs.length+zbS (a.getD i default).Fs+zbM (a.drop (i+1)):=by rw [zbb hi,zbM]
   have hlen:=zvf (a.getD i default).Fs;have sz:=zxX a i hi;have e6:=λn hn=>z1B g a i hi L hx hF (by omega) n hn
   refine ⟨by rw [qg]; omega,λH K D=> ?_⟩
   show (ziX g a (nI L) i).ev H K D=_;unfold ziX;simp only [Wy.ev_i,Wy.ev_k,Wy.ev_h,Wy.ev_bn,Wy.ev_d,tT,hi];rw [e6 _ (by omega)]
   simp only [cond_true,zbi (show i<4611686018427387904 by omega)])
  (λL hI H K D=>by
   show (ziX g a (nI L) a.length).ev H K D=_;unfold ziX;simp only [Wy.ev_i,Wy.ev_k,tT,Nat.lt_irrefl]) n L hn (by simpa using ho)
 rw [zGl] at hh;exact hh
theorem z1k (hg:∀ t∈a,t.Fs.length<=1000000/\∀ f∈t.Fs,rvX g f.At) (hl:a.length<=1000000) (ht:zbM a<=300000):rvG (zlJ g) a:=by
 have h3:=λn hn=>z1q g a [] hg hl (by simpa using ht) n hn
 rw [z0S,List.nil_append] at h3;unfold rvG zlJ zxF;rw [Wy.fin_bn,h3 _ (by omega)]; rfl
end
theorem zU9:∀ {a:yB} {t:Term},t∈a->1+t.Fs.length+zbS t.Fs<=zbM a
 | [],t,h=>by cases h
 | ⟨c,fs⟩::r,t,h=>by
  rw [zbM];rcases qd.1 h with rfl | h
  ·exact Nat.le_add_right _ _
  ·have:=zU9 h; omega
theorem zQU:∀ {l:yC} {f:Fc},f∈l->zqb f.At<=zbS l
 | [],f,h=>by cases h
 | ⟨x,e⟩::r,f,h=>by
  rw [zbS];rcases qd.1 h with rfl | h
  ·exact Nat.le_add_right _ _
  ·have:=zQU h; omega
theorem zT0:∀ {l:yA} {b:yB},b∈l->zbM b<=zeU l
 | [],b,h=>by cases h
 | a::r,b,h=>by
  rw [zeU];rcases qd.1 h with rfl | h
  ·exact Nat.le_add_right _ _
  ·have:=zT0 h; omega
theorem zSY:∀ {l:yD} {w:Wd},w∈l->zbM w.Ann<=zcX l
 | [],w,h=>by cases h
 | ⟨v,a⟩::r,w,h=>by
  rw [zcX];rcases qd.1 h with rfl | h
  ·show zbM a<=_; omega
  ·have:=zSY h; omega
theorem zY9:∀ (d n:Nat) (a:yB),d<=n->zP d a->zbM a<=300000->rvG (zlr n) a
 | 0,n,a,h,hf,_=>hf.elim
 | d+1,n,a,h,hf,ht=>by
  obtain ⟨m,rfl⟩:∃ m,n=m+1:=⟨n - 1,by omega⟩
  rw [zI8];refine z1k _ a (λt hm=>⟨(hf.2 t hm).1,λf hf'=> ?_⟩) hf.1 ht
  have hx:=(hf.2 t hm).2 f hf';have t1:=zU9 hm;have t2:=zQU hf';have t3:=zBS f.At;exact ⟨⟨hx.1.1,hx.1.2.1⟩,λb hb=>zY9 d m b (by omega) (hx.2.1 b hb) (by have:=zT0 hb; omega),λw hw=>zY9 d m w.Ann (by omega) (hx.2.2 w hw).2 (by have:=zSY hw; omega)⟩
theorem zZb {d:Nat} {a:yB} (h:zP d a) (hd:d<=1000) (ht:zbM a<=300000):zwx a=(true,vars a):=zY9 d 1000 a hd h ht
end Go.Proofs.YtnolcogncjijpaaGreatDoor
/- Polynomials: by the program and by the reference. -/
set_option maxRecDepth 100000
namespace Go.Proofs.YtnolcogncjijpaaGreatDoor
open Go Go.Ab
def npF (f:Fc):Bool:=f.At.Kind != 0
def npT (t:Term):Bool:=t.Fs.any npF
theorem zU6 (s:yC) (hs:s.length<=1000000):∀ (n i:Nat),s.length<i+n->i<=s.length->
  ∃ r,zhv n s s.length i=(true,r)/\(bif isL r then decide ((0:Int)<=getL r) else false)=(s.drop i).any npF
 | 0,i,h1,h2=>by omega
 | n+1,i,h1,h2=>by
  show ∃ r,(zdT s s.length i).ev (zN zdU (.inl default) n) (λr=>(true,r)) (false,.inl default)=(true,r)/\_
  unfold zdT;by_cases hi:i<s.length
  ·obtain ⟨r,r1,r2⟩:=zU6 s hs n (i+1) (by omega) (by omega)
   have ec:(zgb (FO.mk (At.mk (s.getD i default).At.Kind (s.getD i default).At.Row (s.getD i default).At.Ag (s.getD i default).At.Func (s.getD i default).At.Items (s.getD i default).At.Op (s.getD i default).At.Bd) (s.getD i default).Exp)).snd=npF (s.getD i default):=rfl;simp only [Wy.ev_i,Wy.ev_k,Wy.ev_h,Wy.ev_bn,Wy.ev_d,tT,hi,ec,zbi (show i<4611686018427387904 by omega)]
   rw [zbb hi,List.any_cons];cases npF (s.getD i default) with
   | true=>exact ⟨_,rfl,by simp [isL,getL]⟩
   | false=>exact ⟨r,r1,by rw [Bool.false_or]; exact r2⟩
  ·simp only [Wy.ev_i,Wy.ev_k,Wy.ev_h,Wy.ev_bn,Wy.ev_d,tT,hi,zdA hi];exact ⟨_,rfl,rfl⟩
theorem z0D (s:yC) (hs:s.length<=1000000):zca s=(true,s.any npF):=by
 obtain ⟨r,h1,h2⟩:=zU6 s hs (s.length+(Int.ofNat s.length).toNat +Int.toNat (0:Int)+(1:Nat)) 0 (by omega) (by omega)
 rw [show ((0:Nat):Int)=(0:Int) from rfl] at h1
 rw [List.drop_zero] at h2;unfold zca zgD zc6 zhM;simp only [Wy.fin_bn,Int.ofNat_eq_natCast] at h1 ⊢;rw [h1, <- h2];cases r <;>rfl
theorem z0A (t:Term) (hs:t.Fs.length<=1000000):ze5 t=(true,npT t):=by
 unfold ze5 zpW;rw [Wy.fin_bn,z0D _ hs]; rfl
theorem zU1 (s:yB) (hs:s.length<=1000000) (hf:∀ t∈s,t.Fs.length<=1000000):∀ (n i:Nat),s.length<i+n->i<=s.length->
  ∃ r,zgV n s s.length i=(true,r)/\(bif isL r then decide ((0:Int)<=getL r) else false)=(s.drop i).any npT
 | 0,i,h1,h2=>by omega
 | n+1,i,h1,h2=>by
  show ∃ r,(zdJ s s.length i).ev (zN zdI (.inl default) n) (λr=>(true,r)) (false,.inl default)=(true,r)/\_
  unfold zdJ;by_cases hi:i<s.length
  ·obtain ⟨r,r1,r2⟩:=zU1 s hs hf n (i+1) (by omega) (by omega)
   have ec:=z0A _ (hf _ (zX hi));simp only [Wy.ev_i,Wy.ev_k,Wy.ev_h,Wy.ev_bn,Wy.ev_d,tT,hi,ec,zbi (show i<4611686018427387904 by omega)]
   rw [zbb hi,List.any_cons];cases npT (s.getD i default) with
   | true=>exact ⟨_,rfl,by simp [isL,getL]⟩
   | false=>exact ⟨r,r1,by rw [Bool.false_or]; exact r2⟩
  ·simp only [Wy.ev_i,Wy.ev_k,Wy.ev_h,Wy.ev_bn,Wy.ev_d,tT,hi,zdA hi];exact ⟨_,rfl,rfl⟩
theorem zQ9 (s:yB) (hs:s.length<=1000000) (hf:∀ t∈s,t.Fs.length<=1000000):zg8 s=(true, !s.any npT):=by
 obtain ⟨r,h1,h2⟩:=zU1 s hs hf (s.length+(Int.ofNat s.length).toNat +Int.toNat (0:Int)+(1:Nat)) 0 (by omega) (by omega)
 rw [show ((0:Nat):Int)=(0:Int) from rfl] at h1
 rw [List.drop_zero] at h2
 have hc:zb3 s=(true,s.any npT):=by
  unfold zb3 zgv zc0 zhr;simp only [Wy.fin_bn,Int.ofNat_eq_natCast] at h1 ⊢;rw [h1, <- h2];cases r <;>rfl
 unfold zg8 zsK;rw [Wy.fin_bn,hc]; rfl
theorem zXu (a:yB) (i:Nat) (hi:i<a.length) (hl:(a.getD i default).Fs.length<=1000000):∀ (n k:Nat),(a.getD i default).Fs.length<k+n->k<=(a.getD i default).Fs.length->
  zxE n a i k=(true,bif ((a.getD i default).Fs.drop k).any npF then .inl false else .inr (a,(i:Int)))
 | 0,k,h1,h2=>by omega
 | n+1,k,h1,h2=>by
  show (zsA a i k).ev (zN zsl (.inl default) n) (λr=>(true,r)) (false,.inl default)=_
  unfold zsA;by_cases hk:k<(a.getD i default).Fs.length
  ·have ih:=zXu a i hi hl n (k+1) (by omega) (by omega)
   have ec:(((a.getD i default).Fs.getD k default).At.Kind != (0:Int))=npF ((a.getD i default).Fs.getD k default):=rfl;simp only [Wy.ev_i,Wy.ev_k,Wy.ev_h,Wy.ev_bn,Wy.ev_d,tT,hi,hk,ec,zbi (show k<4611686018427387904 by omega)]
   rw [zbb hk,List.any_cons];cases npF ((a.getD i default).Fs.getD k default) with
   | true=>rfl
   | false=>rw [Bool.false_or]; exact ih
  ·simp only [Wy.ev_i,Wy.ev_k,Wy.ev_h,Wy.ev_bn,Wy.ev_d,tT,hi,hk,zdA hk];rfl
theorem zXR (a:yB) (hl:a.length<=1000000) (hf:∀ t∈a,t.Fs.length<=1000000):∀ (n i:Nat),a.length<i+n->i<=a.length->
  zxJ n a i=(true,bif (a.drop i).any npT then .inl false else .inr ())
 | 0,i,h1,h2=>by omega
 | n+1,i,h1,h2=>by
  show (zsu a i).ev (zN zsB (.inl default) n) (λr=>(true,r)) (false,.inl default)=_
  unfold zsu;by_cases hi:i<a.length
  ·have ih:=zXR a hl hf n (i+1) (by omega) (by omega)
   have hF:=hf _ (zX hi);have sz:=zxX a i hi;have e5:=zXu a i hi hF ((a.length+(i:Int).toNat +Int.toNat (0:Int)+(1:Nat))+zdi a) 0 (by omega) (by omega)
   rw [show ((0:Nat):Int)=(0:Int) from rfl,List.drop_zero] at e5
   simp only [Int.toNat_natCast] at e5;simp only [Wy.ev_i,Wy.ev_k,Wy.ev_h,Wy.ev_bn,Wy.ev_d,tT,hi,e5];rw [zbb hi,List.any_cons];show _=(true,bif (List.any (a.getD i default).Fs npF||_) then _ else _)
   cases (List.any (a.getD i default).Fs npF) with
   | true=>rfl
   | false=>
    simp only [cond_false,isL,getR,zbi (show i<4611686018427387904 by omega),Bool.false_or]
    exact ih
  ·simp only [Wy.ev_i,Wy.ev_k,Wy.ev_h,Wy.ev_bn,Wy.ev_d,tT,hi,zdA hi];rfl
theorem zSb (a:yB) (hl:a.length<=1000000) (hf:∀ t∈a,t.Fs.length<=1000000):zm0 a=(true, !a.any npT):=by
 have h2:=zXR a hl hf ((a.length+Int.toNat (0:Int)+(1:Nat))+zdi a) 0 (by omega) (by omega)
 rw [show ((0:Nat):Int)=(0:Int) from rfl,List.drop_zero] at h2
 unfold zm0 zzs;rw [Wy.fin_bn,h2,cond_true];cases a.any npT <;>rfl
end Go.Proofs.YtnolcogncjijpaaGreatDoor
/- Results may be handed over again. -/
namespace Go.Proofs.YtnolcogncjijpaaGreatDoor
open Go Go.Ab
def okR (r:yB×Int):Prop:=okA r.1/\(r.2=0\/r.1=[])
theorem okR.same {r:yB×Int} (h:okR r):zJh r.1 r.2 r.1 r.2=(true,true):=zZS h.1.1.1 (by omega) h.2
theorem zZJ {a:yB} {n:Nat} (hn:n<=1000) (h:zP 12 a/\zbM a<=n) (hw:zXf a):okA a:=⟨⟨h.1,by have:=zBV a; omega⟩,hw.1,hw.2⟩
end Go.Proofs.YtnolcogncjijpaaGreatDoor
/- The law of validity, sizes and variables. -/
set_option maxRecDepth 100000
namespace Go.Proofs.YtnolcogncjijpaaGreatDoor
open Go Go.Ab
theorem zXn {a:yB} (oa:okA a):zoF a=(true,(zY a:Int))/\zwX a=(true,(zY a:Int)):=zJt 1000 12 a oa.1.1 (by omega) oa.1.2
theorem zRF (a:yB) (ha:zXf a):zey a=(true,true):=by
 have l9:∀ (l:yE),l.length<=1000000->∀ n,l.length<n->zqP n a l 0 l=(true,.inr a):=λl hl n hn=>by
  have hh:=zFq (W:=zkr) (z:=.inl default) l (λi (_:Unit)=>(a,(),l,(i:Int),())) (λ_ _=>(l,())) (λu _=>u) (λ_=>.inr a) (λ_ _=>True)
   (λi u hi _=>⟨trivial,λH K D=>by
    show (zeN a l i l).ev H K D=_;unfold zeN;simp only [Wy.ev_i,Wy.ev_k,Wy.ev_h,Wy.ev_bn,Wy.ev_d,tT,hi,beq_self_eq_true,Bool.and_self,cond_true,cond_false,Bool.not_true,zbi (show i<4611686018427387904 by omega)]⟩)
   (λu _ H K D=>by
    show (zeN a l l.length l).ev H K D=_;unfold zeN;simp only [Wy.ev_i,Wy.ev_k,tT,Nat.lt_irrefl]) n () hn trivial
  exact hh
 have l5:okA a->zbM a<=100->zqW 1 a=(true,true):=λoa ht=>by
  have hf:=oa.1.1;have hF:∀ t∈a,t.Fs.length<=1000000:=λt hm=>(hf.2 t hm).1
  have l8:∀ (l:yE),l.length<=1000000->zqS 1 a l l=(true,true):=λl hl=>by
   show (zkz a l l).ev (zN zkb default 0) (λr=>(true,r)) (false,default)=_
   unfold zkz;have s:=zXn oa;rw [Wy.ev_bn,l9 l hl _ (by omega),cond_true]
   simp only [Wy.ev_i,Wy.ev_bn,Wy.ev_k,isL,getR,cond_false,cond_true,oa.valid,oa.rvalid,s.1,s.2,zQ9 a hf.1 hF,zSb a hf.1 hF,beq_self_eq_true]
  show (zkh a).ev (zN zkt default 0) (λr=>(true,r)) (false,default)=_
  unfold zkh;have hv:=zoQ a;have hn:(vars a).length<=(zik a).length:=zHi _;have e8:=l8 (vars a) (by omega)
  have en:∀ x:Int,(x != x)=false:=λx=>by simp
  simp only [Wy.ev_i,Wy.ev_bn,Wy.ev_k,zZ5 hf (by omega) (show zbM a<=300000 by omega),zZb hf (by omega) (show zbM a<=300000 by omega),cond_true,en,cond_false,e8]
 have l3:zqT 1 a=(true,true):=by
  show (zkf a).ev (zN zkg default 0) (λr=>(true,r)) (false,default)=_
  unfold zkf
  obtain ⟨q,q1,q2⟩:=z0v 100 (by omega) [a] (by simp) (λx hx=>by
   rw [qh] at hx; subst hx; exact ha)
  replace q1:zwe (100:Int) [a]=(true,q):=q1;rw [Wy.ev_bn,q1,cond_true,Wy.ev_i];cases q with
  | false=>rfl
  | true=>
   have f:=q2 rfl a (by simp)
   have e5:=l5 (zZJ (n:=100) (by omega) f ha) f.2
   rw [Bool.not_true,cond_false,Wy.ev_bn,e5]; rfl
 unfold zey zrI;rw [Wy.fin_bn,l3]; rfl
end Go.Proofs.YtnolcogncjijpaaGreatDoor
end
