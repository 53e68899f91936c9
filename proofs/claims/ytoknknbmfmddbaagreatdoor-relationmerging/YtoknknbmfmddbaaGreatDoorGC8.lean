/- Texts of this claim, joined (the program, its functions in plain words, and what they compute). -/
import Derived.Test.YtoknknbmfmddbaaGreatDoorGC7
set_option autoImplicit false
set_option linter.unusedVariables false
set_option linter.unusedSectionVars false
set_option linter.unusedSimpArgs false
set_option maxRecDepth 1000000
set_option maxHeartbeats 0
/- Which annotations are valid: both sides compute the same. -/
noncomputable section
namespace Go.Proofs.YtoknknbmfmddbaaGreatDoor
open Go Go.Ab
def rz (r:RowID):Bool:=r.Table==(0:Int)&&(r.Seq==(0:Int)&&true)
def zqp (V:yB->Bool) (l:yA):Bool:=l.all λa=>V a&& !(a.length==0)
def zAS (V:yB->Bool) (l:yD):Bool:=l.all λw=>V w.Ann&& !(w.Ann.length==0)
def zyz (r:RowID):Bool:=decide (r.Table≥1)&&decide (r.Seq≥1)
def zD8 (p:yB->Bool):yA->Bool
 | [a]=>p a
 | _=>false
def zYT (p:yB->yB->Bool):yA->Bool
 | [a,b]=>p a b
 | _=>false
def zd8 (V:yB->Bool) (x:At):Bool:=
 zqp V x.Ag&&
 if x.Kind=0 then plA x&&zyz x.Row&&(x.Ag.length==0)
 else rz x.Row&&
  if x.Kind=1 then plA x&&zYT (λa b=> !decide (a=b)) x.Ag
  else if x.Kind=2 then plA x&&zD8 (λa=> !isC a&& !isU a) x.Ag
  else if x.Kind=3 then plA x&&zD8 (λa=> !zwX a) x.Ag
  else if x.Kind=4 then (x.Ag.length==0)&&decide (0<x.Items.length)&&zAS V x.Items&&zTF x.Items&&zzk x.Func x.Items x.Op x.Bd
  else false
def zMf (vat:At->Bool) (fs:yC) (k:Nat):Bool:=
 decide (1<=(fs.getD k default).Exp)&& !(((fs.getD k default).At.Kind==3||(fs.getD k default).At.Kind==4)&&(fs.getD k default).Exp != 1)&&
  (decide (k=0)||decide (z8 (zdZ (fs.getD (k - 1) default).At) (zdZ (fs.getD k default).At)<0))&&vat (fs.getD k default).At
def okF (vat:At->Bool) (fs:yC):Bool:=zer (zMf vat fs) fs.length 0
def zCk (vat:At->Bool) (a:yB) (i:Nat):Bool:=
 decide (1<=(a.getD i default).Cf)&&decide ((a.getD i default).Cf<=1152921504606846976)&&
  (decide (i=0)||decide (zbn (zbr (a.getD (i - 1) default).Fs) (zbr (a.getD i default).Fs)<0))&&okF vat (a.getD i default).Fs
def zwN (vat:At->Bool) (a:yB):Bool:=zfj a&&zer (zCk vat a) a.length 0
def zbx:Nat->yB->Bool
 | 0,_=>false
 | n+1,a=>zwN (zd8 (zbx n)) a
theorem zBq (r:RowID):zqU r=(true,zyz r):=by
 unfold zqU zN4 zyz;rw [Wy.fin_i,Wy.fin_k,Wy.fin_k];cases decide (r.Table≥1) <;>rfl
theorem zBV {V:yB->Bool} {x:At} (h:zd8 V x=true):0<=x.Kind/\x.Kind<=4:=by
 unfold zd8 at h;by_cases h0:x.Kind=0
 ·omega
 by_cases h1:x.Kind=1
 ·omega
 by_cases h2:x.Kind=2
 ·omega
 by_cases h3:x.Kind=3
 ·omega
 by_cases h4:x.Kind=4
 ·omega
 simp [h0,h1,h2,h3,h4] at h
theorem zr6 (l k:Nat):((Int.ofNat l)==(k:Int))=(l==k):=by
 rw [zf8,zXa]; congr 1; simp; omega
section
variable (V:yB->Bool) (gW:yD->Bool×Bool) (gA:yA->Bool×Bool) (c1:yB->Bool×Bool) (c2:Wd->Bool×Bool)
theorem zZ3 (x:At) {d:Nat} (hx:zc7 (zn d) x) (hd:d<=99) (hA:gA x.Ag=(true, !zqp V x.Ag)) (hW:gW x.Items=(true, !zAS V x.Items)):
  zjq gA c1 gW c2 x=(true,zd8 V x):=by
 have hS:=z5T x.Items hx.1.2.1 (λw hw=>(hx.2.2 w hw).2) hd
 have hF:=zZr x.Func x.Items x.Op x.Bd hx.1.2.1;have hE:∀ a∈x.Ag,∀ b,zf7 a b=(true,decide (a=b)):=λa ha b=>zwG (hx.2.1 a ha) (by omega) b
 have hC:∀ a∈x.Ag,zeX a=(true,zwX a):=λa ha=>zOI a (by
  have:=hx.2.1 a ha;cases d with
  | zero=>exact this.elim
  | succ d=>have:=this.1; omega)
 obtain ⟨k,r,l,f,its,o,b⟩:=x;simp only at hA hW hS hF hE hC;unfold zjq zca zd8 plA;simp only [zBq,hA,hW,hS,hF,Wy.fin_i,Wy.fin_k,Wy.fin_bn,cond_true]
 rw [show (b.Kind==(0:Int)&&(b.Int==(0:Int)&&(b.Text.toList==(ByteArray.mk #[]).toList&&true)))=bz b from rfl,
  show (r.Table==(0:Int)&&(r.Seq==(0:Int)&&true))=rz r from rfl,
  show (Int.ofNat its.length != 0)= !(its.length==0) from congrArg not (zr6 its.length 0),show (f != 0)= !(f==0) from rfl,show (o != 0)= !(o==0) from rfl]
 generalize zqp V l=A at *;generalize zAS V its=W at *;generalize bz b=B at *;generalize (f==0)=F at *;generalize (o==0)=O at *;generalize rz r=R at *;generalize zyz r=RO at *;generalize zTF its=S at *;generalize zzk f its o b=K at *;have hgt:decide (Int.ofNat its.length>0)=decide (0<its.length):=zjQ its.length 0;rw [hgt];generalize (its.length==0)=I at *;generalize decide (0<its.length)=J at *;by_cases h0:k=0
 ·subst h0;simp only [zr6,show ((Int.ofNat l.length)==(0:Int))=(l.length==0) from zr6 l.length 0]
  generalize (l.length==0)=L;cases F <;>cases I <;>cases O <;>cases B <;>cases A <;>cases RO <;>rfl
 by_cases h1:k=1
 ·subst h1
  match l,hE with
  | [],_=>cases F <;>cases I <;>cases O <;>cases B <;>cases A <;>cases R <;>rfl
  | [u],_=>cases F <;>cases I <;>cases O <;>cases B <;>cases A <;>cases R <;>rfl
  | [u,v],hE=>
   have e:=hE u (by simp) v
   simp only [List.getD,qf,List.length_nil,Int.toNat_zero,List.getElem?_cons_zero,List.getElem?_cons_succ,Option.getD,show Int.toNat 1=1 from rfl,zYT]
   simp only [e];generalize decide (u=v)=E;cases F <;>cases I <;>cases O <;>cases B <;>cases A <;>cases R <;>rfl
  | u::v::w::l,_=>
   have e:((Int.ofNat (u::v::w::l).length)==(2:Int))=false:=by rw [beq_eq_false_iff_ne]; simp; omega
   simp only [e];cases F <;>cases I <;>cases O <;>cases B <;>cases A <;>cases R <;>rfl
 by_cases h2:k=2
 ·subst h2
  match l with
  | []=>cases F <;>cases I <;>cases O <;>cases B <;>cases A <;>cases R <;>rfl
  | [u]=>
   simp only [List.getD,qf,List.length_nil,Int.toNat_zero,List.getElem?_cons_zero,Option.getD,zD8,zQ7,z1r];generalize isC u=E;generalize isU u=E';cases F <;>cases I <;>cases O <;>cases B <;>cases A <;>cases R <;>cases E <;>cases E' <;>rfl
  | u::v::l=>
   simp only [zMg];cases F <;>cases I <;>cases O <;>cases B <;>cases A <;>cases R <;>rfl
 by_cases h3:k=3
 ·subst h3
  match l,hC with
  | [],_=>cases F <;>cases I <;>cases O <;>cases B <;>cases A <;>cases R <;>rfl
  | [u],hC=>
   have e:=hC u (by simp)
   simp only [List.getD,qf,List.length_nil,Int.toNat_zero,List.getElem?_cons_zero,Option.getD,zD8];simp only [e];generalize zwX u=E;cases F <;>cases I <;>cases O <;>cases B <;>cases A <;>cases R <;>cases E <;>rfl
  | u::v::l,_=>
   simp only [zMg];cases F <;>cases I <;>cases O <;>cases B <;>cases A <;>cases R <;>rfl
 by_cases h4:k=4
 ·subst h4;simp only [show ((Int.ofNat l.length)==(0:Int))=(l.length==0) from zr6 l.length 0]
  generalize (l.length==0)=L;cases A <;>cases W <;>cases L <;>cases J <;>cases S <;>cases K <;>cases R <;>rfl
 simp only [zf8,h0,h1,h2,h3,h4,decide_false,if_false,cond_false];cases F <;>cases I <;>cases O <;>cases B <;>cases A <;>cases R <;>rfl
end
section
variable (V:yB->Bool) (g:yB->Bool×Bool)
theorem zbd2 (x:At) (hl:x.Ag.length<=1000000) (hg:∀ a∈x.Ag,g a=(true,V a)) (n:Nat) (hn:x.Ag.length<n):zvp g n 0 x=(true,bif zqp V x.Ag then .inr x else .inl false):=by
 have:=zcz (W:=zBF g) (z:=.inl default) x.Ag.length (λi=>((),(i:Int),())) (λ_=>(x,())) (λi=>(λa:yB=>V a&& !(a.length==0)) (x.Ag.getD i default)) (.inl false) (.inr x)
  (λi hi H K D=>by
   show (zkI g i x).ev H K D=_;unfold zkI;have hL:decide ((i:Int)<Int.ofNat x.Ag.length)=true:=by simp [hi]
   simp only [Wy.ev_i,Wy.ev_k,Wy.ev_h,Wy.ev_bn,Wy.ev_d,hL,zez,Bool.and_self,cond_true,Int.toNat_natCast,hg _ (zm hi)];rw [zy (by omega),show (Int.ofNat (x.Ag.getD i default).length==(0:Int))=((x.Ag.getD i default).length==0) from zr6 _ 0]
   cases V (x.Ag.getD i default) <;>cases ((x.Ag.getD i default).length==0) <;>rfl)
  (λH K D=>by
   show (zkI g x.Ag.length x).ev H K D=_;unfold zkI;have hL:decide ((x.Ag.length:Int)<Int.ofNat x.Ag.length)=false:=by simp
   simp only [Wy.ev_i,Wy.ev_k,hL,cond_false]) n hn
 rw [zx3 (λa:yB=>V a&& !(a.length==0))] at this
 exact this
theorem z2N {τ:Type} [Inhabited τ] (l:List τ) (i:Nat) (h:i<l.length):List.take 1 (List.drop i l)=[l.getD i default]:=by
 rw [zbh h]; rfl
theorem zbaR (x y:TT):zbn [x] [y]=z8 x y:=by
 simp only [zbn];split
 ·rename_i h; exact h.symm
 ·rfl
theorem zbc4 (x:At) {d:Nat} (hx:zc7 (zn d) x) (hd:d<=99) (hg:∀ a∈x.Items,g a.Ann=(true,V a.Ann)) (n:Nat) (hn:x.Items.length<n):zAR g n 0 x=(true,bif zAS V x.Items&&zTF x.Items then .inr () else .inl false):=by
 have hl:x.Items.length<=1000000:=hx.1.2.1
 have:=zcz (W:=zAO g) (z:=.inl default) x.Items.length (λi=>((),(i:Int),())) (λ_=>(x,())) (λi=>(λw:Wd=>V w.Ann&& !(w.Ann.length==0)) (x.Items.getD i default)&&zQA x.Items i) (.inl false) (.inr ())
  (λi hi H K D=>by
   show (zjI g i x).ev H K D=_;unfold zjI;have hL:decide ((i:Int)<Int.ofNat x.Items.length)=true:=by simp [hi]
   simp only [Wy.ev_i,Wy.ev_k,Wy.ev_h,Wy.ev_bn,Wy.ev_d,hL,zez,Bool.and_self,cond_true,Int.toNat_natCast,hg _ (zm hi)];rw [zy (by omega),show (Int.ofNat (x.Items.getD i default).Ann.length==(0:Int))=((x.Items.getD i default).Ann.length==0) from zr6 _ 0]
   cases V (x.Items.getD i default).Ann <;>cases ((x.Items.getD i default).Ann.length==0) <;>try rfl
   simp only [cond_true,cond_false,Bool.not_true,Bool.not_false,Bool.and_self,Bool.true_and];cases i with
   | zero=>rfl
   | succ i=>
    have hi':i<x.Items.length:=by omega
    have hw:IntKind.i64.wrap (((i+1:Nat):Int) - 1)=(i:Int):=by rw [zxU (by omega) (by omega)]; rfl
    have e1:(decide ((0:Int)<=(i:Int))&&decide ((i:Int)<=((i+1:Nat):Int))&&decide (((i+1:Nat):Int)<=Int.ofNat x.Items.length))=true:=by
     simp; try omega
    have e2:(decide (((i+1:Nat):Int)<=((i+1+1:Nat):Int))&&decide (((i+1+1:Nat):Int)<=Int.ofNat x.Items.length))=true:=by
     simp; try omega
    have e3:decide (((i+1:Nat):Int)>0)=true:=by simp; try omega
    simp only [hw,e1,e2,e3,cond_true,Bool.true_and,Int.toNat_natCast,show i+1 - i=1 by omega,show i+1+1 - (i+1)=1 by omega,z2N _ _ hi,z2N _ _ hi']
    rw [zAt (d:=d) (by simp) (λw hw=>by
     rw [qh] at hw; subst hw; exact (hx.2.2 _ (zm hi')).2) hd,zmc,zmc]
    simp only [List.map,zbaR,cond_true,zQA,show i+1 - 1=i from rfl]
    have e4:decide (i+1=0)=false:=by simp
    rw [e4,Bool.false_or];generalize z8 (zba (x.Items.getD i default)) (zba (x.Items.getD (i+1) default))=z;by_cases hz:z>0
    ·have:¬ z<=0:=by omega
     simp only [hz,this,decide_true,decide_false,cond_true,cond_false]
    ·have:z<=0:=by omega
     simp only [hz,this,decide_true,decide_false,cond_true,cond_false])
  (λH K D=>by
   show (zjI g x.Items.length x).ev H K D=_;unfold zjI;have hL:decide ((x.Items.length:Int)<Int.ofNat x.Items.length)=false:=by simp
   simp only [Wy.ev_i,Wy.ev_k,hL,cond_false]) n hn
 rw [z4J (λi=>(λw:Wd=>V w.Ann&& !(w.Ann.length==0)) (x.Items.getD i default)),zx3 (λw:Wd=>V w.Ann&& !(w.Ann.length==0))] at this
 exact this
theorem zU7 {A ρ:Type} (s:A) (k:A->Wy0 ρ) (z:ρ):(Wy.bn (true,s) k).fin z=(k s).fin z:=rfl
theorem zZb (x:At) {d:Nat} (hx:zc7 (zn d) x) (hd:d<=99) (h10:x.Items.length<=1024) (hV:∀ a,V a=true->isB a=isU a) (hgA:∀ a∈x.Ag,g a=(true,V a)) (hgI:∀ a∈x.Items,g a.Ann=(true,V a.Ann)):
  ztD g x=(true,zd8 V x):=by
 have hS:=λn hn=>zbc4 V g x hx hd hgI n hn
 have hA:=λn hn=>zbd2 V g x hx.1.1 hgA n hn
 have hF:=z4r x.Func x.Items x.Op x.Bd hx.1.2.1;have hE:∀ a∈x.Ag,∀ b,zoQ a b=(true,decide (a=b)):=λa ha b=>zGd (hx.2.1 a ha) (by omega) b
 have hC:∀ a∈x.Ag,zl5 a=(true,zwX a):=λa ha=>zzc a (by
  have:=hx.2.1 a ha;cases d with
  | zero=>exact this.elim
  | succ d=>have:=this.1; omega)
 have hP:=z9y x;unfold ztD zCR zd8;obtain ⟨s,hs1,hs2⟩:∃ s,zvp g (Int.toNat (0:Int)+x.Ag.length+x.Items.length+(1:Nat)) 0 x=(true,s)/\s=bif zqp V x.Ag then .inr x else .inl false:=⟨_,hA _ (by omega),rfl⟩
 rw [At.eta,hP,hs1];simp only [Wy.fin_i,Wy.fin_k,zU7];simp only [Wy.fin_i,Wy.fin_k,Wy.fin_bn,cond_true];rw [show (x.Row.Table==(0:Int)&&(x.Row.Seq==(0:Int)&&true))=rz x.Row from rfl]
 have b0:(x.Kind==(0:Int))=decide (x.Kind=0):=zf8 _ _;have b1:(x.Kind==(1:Int))=decide (x.Kind=1):=zf8 _ _;have b2:(x.Kind==(2:Int))=decide (x.Kind=2):=zf8 _ _;have b3:(x.Kind==(3:Int))=decide (x.Kind=3):=zf8 _ _;have b4:(x.Kind==(4:Int))=decide (x.Kind=4):=zf8 _ _;by_cases h0:x.Kind=0
 ·rw [b0];simp only [h0,decide_true,cond_true,if_true];rw [show (Int.ofNat x.Ag.length==(0:Int))=(x.Ag.length==0) from zr6 _ 0]
  unfold zyz
  match hl:x.Ag with
  | []=>cases decide (x.Row.Table≥1) <;>cases decide (x.Row.Seq≥1) <;>cases plA x <;>rfl
  | u::l=>cases decide (x.Row.Table≥1) <;>cases decide (x.Row.Seq≥1) <;>cases plA x <;>cases zqp V (u::l) <;>rfl
 rw [b0];simp only [h0,decide_false,cond_false,if_false];cases hA:zqp V x.Ag with
 | false=>rw [hs2,hA]; cases rz x.Row <;>rfl
 | true=>
 rw [hA,cond_true] at hs2;have hy:getR s=x:=by rw [hs2]; rfl
 have hy2:isL s=false:=by rw [hs2]; rfl
 rw [hy2];generalize getR s=y at hy ⊢;subst hy;cases rz y.Row with
 | false=>rfl
 | true=>
 simp only [Bool.not_true,cond_false,cond_true,isL,getR,Bool.true_and,At.eta,hP,hF,b1,b2,b3,b4];by_cases h1:y.Kind=1
 ·simp only [h1,decide_true,cond_true,if_true]
  match hl:y.Ag with
  | []=>cases plA y <;>rfl
  | [u]=>cases plA y <;>rfl
  | [u,v]=>
   have e:=hE u (by rw [hl]; simp) v
   simp only [List.getD,qf,List.length_nil,Int.toNat_zero,List.getElem?_cons_zero,List.getElem?_cons_succ,Option.getD,show Int.toNat 1=1 from rfl,zYT]
   simp only [e];generalize decide (u=v)=E;cases plA y <;>rfl
  | u::v::w::l=>
   have e:((Int.ofNat (u::v::w::l).length)==(2:Int))=false:=by rw [beq_eq_false_iff_ne]; simp; omega
   simp only [e];cases plA y <;>rfl
 simp only [h1,decide_false,cond_false,if_false];by_cases h2:y.Kind=2
 ·simp only [h2,decide_true,cond_true,if_true]
  match hl:y.Ag with
  | []=>cases plA y <;>rfl
  | [u]=>
   have e:=hC u (by rw [hl]; simp)
   have eV:V u=true:=by
    rw [hl] at hA;unfold zqp at hA;simp at hA;exact hA.1
   simp only [List.getD,qf,List.length_nil,Int.toNat_zero,List.getElem?_cons_zero,Option.getD,zD8,zLt,e,hV u eV]
   match u with
   | []=>cases plA y <;>rfl
   | [t]=>
    have e1:zwX [t]=(t.Fs.length==0):=by simp [zwX]
    have e2:isC [t]=(t.Fs.length==0):=rfl;rw [e1,e2];cases plA y <;>cases (t.Fs.length==0) <;>cases isU [t] <;>rfl
   | t::s::r=>
    simp only [zMg];cases plA y <;>rfl
  | u::v::l=>
   simp only [zMg];cases plA y <;>rfl
 simp only [h2,decide_false,cond_false,if_false];by_cases h3:y.Kind=3
 ·simp only [h3,decide_true,cond_true,if_true]
  match hl:y.Ag with
  | []=>cases plA y <;>rfl
  | [u]=>
   have e:=hC u (by rw [hl]; simp)
   simp only [List.getD,qf,List.length_nil,Int.toNat_zero,List.getElem?_cons_zero,Option.getD,zD8];simp only [e];cases plA y <;>cases zwX u <;>rfl
  | u::v::l=>
   simp only [zMg];cases plA y <;>rfl
 simp only [h3,decide_false,cond_false,if_false];by_cases h4:y.Kind=4
 ·have e10:decide (Int.ofNat y.Items.length>(1024:Int))=false:=by simp; omega
  rw [hS _ (by omega)]
  rw [e10];simp only [h4,decide_true,cond_true,if_true,cond_false];rw [show (Int.ofNat y.Ag.length != (0:Int))= !(y.Ag.length==0) from congrArg not (zr6 y.Ag.length 0),show (Int.ofNat y.Items.length==(0:Int))=(y.Items.length==0) from zr6 y.Items.length 0]
  have e11:decide (0<y.Items.length)= !(y.Items.length==0):=by
   rw [zXa];by_cases h:y.Items.length=0
   ·simp [h]
   ·have:0<y.Items.length:=by omega
    simp [h,this]
  rw [e11];cases (y.Ag.length==0) <;>cases (y.Items.length==0) <;>cases zzk y.Func y.Items y.Op y.Bd <;>cases zAS V y.Items <;>cases zTF y.Items <;>rfl
 simp only [h4,decide_false,cond_false,if_false]
end
section
variable (V:yB->Bool) (vat:At->Bool)
theorem V_9 (g:At->Bool×Bool) (a t10:yB) (t11 t12:Int) (t:Term) {d:Nat} (ht:zfI (zn d) t.Fs) (hd:d<=99) (hg:∀ f∈t.Fs,g f.At=(true,vat f.At)) (n:Nat) (hn:t.Fs.length<n):
  zuh g n a t10 t11 t12 t.Fs t.Fs.length 0 t=(true,bif okF vat t.Fs then .inr (a,t10,t11,t12) else .inl false):=by
 have hl:=ht.1
 exact zcz (W:=zub g) (z:=.inl default) t.Fs.length (λk=>(a,(),t10,t11,t12,t.Fs,(t.Fs.length:Int),(k:Int),())) (λ_=>(t,())) (zMf vat t.Fs) (.inl false) (.inr (a,t10,t11,t12))
  (λk hk H K D=>by
   show (zjL g a t10 t11 t12 t.Fs t.Fs.length k t).ev H K D=_;unfold zjL zMf
   have hgt:decide ((k:Int)>0)= !decide (k=0):=by
    by_cases h:k=0
    ·subst h; rfl
    ·have:0<k:=by omega
     simp [h,this]
   simp only [At.eta,Wy.ev_i,Wy.ev_k,Wy.ev_h,Wy.ev_bn,Wy.ev_d,tT,hk,zZ1,hg _ (zm hk),hgt];rw [zy (by omega)]
   have e1:decide ((t.Fs.getD k default).Exp<1)= !decide (1<=(t.Fs.getD k default).Exp):=by
    by_cases h:1<=(t.Fs.getD k default).Exp
    ·have:¬ (t.Fs.getD k default).Exp<1:=by omega
     simp only [h,this,decide_true,decide_false,Bool.not_true]
    ·have:(t.Fs.getD k default).Exp<1:=by omega
     simp only [h,this,decide_true,decide_false,Bool.not_false]
   rw [e1];generalize decide (1<=(t.Fs.getD k default).Exp)=E1;generalize ((t.Fs.getD k default).Exp != 1)=E2;generalize ((t.Fs.getD k default).At.Kind==3||(t.Fs.getD k default).At.Kind==4)=E3;by_cases h0:k=0
   ·simp only [h0,decide_true,Bool.not_true,cond_false,Bool.true_or,Bool.and_true];cases E1 <;>cases E2 <;>cases E3 <;>cases vat (t.Fs.getD 0 default).At <;>rfl
   ·have hp:IntKind.i64.wrap ((k:Int) - 1)=((k - 1:Nat):Int):=zxU (by omega) (by omega)
    have hk':k - 1<t.Fs.length:=by omega
    have hfx:zc7 (zn d) (t.Fs.getD (k - 1) default).At:=ht.2 _ (zm hk')
    have e2:∀ z:Int,decide (z≥0)= !decide (z<0):=λz=>by
     by_cases h:z<0
     ·have:¬ z≥0:=by omega
      simp [h,this]
     ·have:z≥0:=by omega
      simp [h,this]
    simp only [h0,hp,tT,hk',zv1 hfx hd,e2,Bool.false_or];generalize decide (z8 (zdZ (t.Fs.getD (k - 1) default).At) (zdZ (t.Fs.getD k default).At)<0)=E4;cases E1 <;>cases E2 <;>cases E3 <;>cases E4 <;>cases vat (t.Fs.getD k default).At <;>rfl)
  (λH K D=>by
   show (zjL g a t10 t11 t12 t.Fs t.Fs.length t.Fs.length t).ev H K D=_;unfold zjL;simp only [Wy.ev_i,Wy.ev_k,tT,Nat.lt_irrefl]) n hn
theorem V_4 (g:At->Bool×Bool) (a:yB) {d:Nat} (h:zn (d+1) a) (hd:d<=99) (hg:∀ t∈a,∀ f∈t.Fs,g f.At=(true,vat f.At)) (n:Nat) (hn:a.length<n):
  zA9 g n a a a.length 0=(true,bif zer (zCk vat a) a.length 0 then .inr () else .inl false):=by
 have hl:=h.1
 exact zcz (W:=zup g) (z:=.inl default) a.length (λk=>(a,a,(a.length:Int),(k:Int),())) (λ_=>()) (zCk vat a) (.inl false) (.inr ())
  (λk hk H K D=>by
   show (zjT g a a a.length k).ev H K D=_;unfold zjT zCk;have ht:=h.2 _ (zm hk)
   have hgt:decide ((k:Int)>0)= !decide (k=0):=by
    by_cases h:k=0
    ·subst h; rfl
    ·have:0<k:=by omega
     simp [h,this]
   simp only [At.eta,Wy.ev_i,Wy.ev_k,Wy.ev_h,Wy.ev_bn,Wy.ev_d,tT,hk,hgt];rw [V_9 vat g a a a.length k _ ht hd (hg _ (zm hk)) _ (by omega)]
   have e1:decide ((a.getD k default).Cf<1)= !decide (1<=(a.getD k default).Cf):=by
    by_cases h:1<=(a.getD k default).Cf
    ·have:¬ (a.getD k default).Cf<1:=by omega
     simp only [h,this,decide_true,decide_false,Bool.not_true]
    ·have:(a.getD k default).Cf<1:=by omega
     simp only [h,this,decide_true,decide_false,Bool.not_false]
   have e3:decide ((a.getD k default).Cf>1152921504606846976)= !decide ((a.getD k default).Cf<=1152921504606846976):=by
    by_cases h:(a.getD k default).Cf<=1152921504606846976
    ·have:¬ (a.getD k default).Cf>1152921504606846976:=by omega
     simp only [h,this,decide_true,decide_false,Bool.not_true]
    ·have:(a.getD k default).Cf>1152921504606846976:=by omega
     simp only [h,this,decide_true,decide_false,Bool.not_false]
   rw [e1,e3];generalize decide (1<=(a.getD k default).Cf)=E1;generalize decide ((a.getD k default).Cf<=1152921504606846976)=E2;by_cases h0:k=0
   ·subst h0;simp only [decide_true,Bool.not_true,cond_false,Bool.true_or,Bool.and_true];cases okF vat (a.getD 0 default).Fs <;>cases E1 <;>cases E2 <;>try rfl
   ·have hp:IntKind.i64.wrap ((k:Int) - 1)=((k - 1:Nat):Int):=zxU (by omega) (by omega)
    have hk':k - 1<a.length:=by omega
    have hfx:zfI (zn d) (a.getD (k - 1) default).Fs:=h.2 _ (zm hk')
    have e2:∀ z:Int,decide (z≥0)= !decide (z<0):=λz=>by
     by_cases h:z<0
     ·have:¬ z≥0:=by omega
      simp [h,this]
     ·have:z≥0:=by omega
      simp [h,this]
    simp only [h0,hp,tT,hk',zvJ hfx hd,e2,Bool.false_or];generalize decide (zbn (zbr (a.getD (k - 1) default).Fs) (zbr (a.getD k default).Fs)<0)=E4;cases okF vat (a.getD k default).Fs <;>cases E1 <;>cases E2 <;>cases E4 <;>try rfl
    simp only [cond_true,cond_false,Bool.not_true,isL,getR,Bool.and_self];rw [zy (by omega),decide_eq_false (show ¬ ((k - 1:Nat):Int)<0 by omega)]; rfl)
  (λH K D=>by
   show (zjT g a a a.length a.length).ev H K D=_;unfold zjT;simp only [Wy.ev_i,Wy.ev_k,tT,Nat.lt_irrefl]) n hn
theorem z7O (g:At->Bool×Bool) (a:yB) {d:Nat} (h:zn (d+1) a) (hd:d<=99) (hs:zM a<=4611686018427387904) (hg:∀ t∈a,∀ f∈t.Fs,g f.At=(true,vat f.At)):zmr g a=(true,zwN vat a):=by
 unfold zmr zCt zwN;have:=V_4 vat g a h hd hg (a.length+a.length+(Int.ofNat a.length).toNat +Int.toNat (0:Int)+(1:Nat)) (by omega)
 rw [show Int.ofNat a.length=(a.length:Int) from rfl] at *
 simp only [Wy.fin_i,Wy.fin_k,Wy.fin_bn,z1N h (by omega) hs,this,cond_true]
 cases zfj a <;>cases zer (zCk vat a) a.length 0 <;>rfl
theorem zbd3 (g:At->Bool×Bool) (a:yB) (i:Int) (t:Term) {d:Nat} (ht:zfI (zn d) t.Fs) (hd:d<=99) (hg:∀ f∈t.Fs,g f.At=(true,vat f.At)) (hk:∀ x,vat x=true->0<=x.Kind/\x.Kind<=4) (n:Nat) (hn:t.Fs.length<n):
  zy8 g n a i 0 t=(true,bif okF vat t.Fs then .inr (a,i) else .inl false):=by
 have hl:=ht.1
 exact zcz (W:=zGR g) (z:=.inl default) t.Fs.length (λk=>(a,i,(),(k:Int),())) (λ_=>(t,())) (zMf vat t.Fs) (.inl false) (.inr (a,i))
  (λk hk1 H K D=>by
   show (zoC g a i k t).ev H K D=_;unfold zoC zMf
   have hgt:decide ((k:Int)>0)= !decide (k=0):=by
    by_cases h:k=0
    ·subst h; rfl
    ·have:0<k:=by omega
     simp [h,this]
   simp only [At.eta,Wy.ev_i,Wy.ev_k,Wy.ev_h,Wy.ev_bn,Wy.ev_d,tT,hk1,hg _ (zm hk1),hgt];rw [zy (by omega)]
   have hk2:=hk (t.Fs.getD k default).At
   have e1:decide ((t.Fs.getD k default).Exp<1)= !decide (1<=(t.Fs.getD k default).Exp):=by
    by_cases h:1<=(t.Fs.getD k default).Exp
    ·have:¬ (t.Fs.getD k default).Exp<1:=by omega
     simp only [h,this,decide_true,decide_false,Bool.not_true]
    ·have:(t.Fs.getD k default).Exp<1:=by omega
     simp only [h,this,decide_true,decide_false,Bool.not_false]
   rw [e1];by_cases hx1:1<=(t.Fs.getD k default).Exp
   rotate_left
   ·simp only [hx1,decide_false,Bool.not_false,cond_true,Bool.false_and,cond_false]
   cases hv:vat (t.Fs.getD k default).At with
   | false=>
    rw [Bool.and_false];cases decide (1<=(t.Fs.getD k default).Exp) <;>cases decide ((t.Fs.getD k default).Exp>1) <;>cases decide ((t.Fs.getD k default).At.Kind≥3) <;>rfl
   | true=>
   obtain ⟨k1,k2⟩:=hk2 hv
   have e5:((t.Fs.getD k default).At.Kind==3||(t.Fs.getD k default).At.Kind==4)=decide ((t.Fs.getD k default).At.Kind≥3):=by
    rw [zf8,zf8, <- Bool.decide_or];congr 1;apply propext; omega
   have e6:((t.Fs.getD k default).Exp != 1)=decide ((t.Fs.getD k default).Exp>1):=by
    rw [zry, <- decide_not];congr 1;apply propext; omega
   rw [e5,e6];simp only [hx1,decide_true,Bool.not_true,cond_false,Bool.true_and];generalize decide ((t.Fs.getD k default).Exp>1)=E2;generalize decide ((t.Fs.getD k default).At.Kind≥3)=E3;by_cases h0:k=0
   ·simp only [h0,decide_true,Bool.not_true,cond_false,Bool.true_or,Bool.and_true];cases E2 <;>cases E3 <;>rfl
   ·have hp:IntKind.i64.wrap ((k:Int) - 1)=((k - 1:Nat):Int):=zxU (by omega) (by omega)
    have hk':k - 1<t.Fs.length:=by omega
    have hfx:zc7 (zn d) (t.Fs.getD (k - 1) default).At:=ht.2 _ (zm hk')
    have e2:∀ z:Int,decide (z≥0)= !decide (z<0):=λz=>by
     by_cases h:z<0
     ·have:¬ z≥0:=by omega
      simp [h,this]
     ·have:z≥0:=by omega
      simp [h,this]
    simp only [h0,hp,tT,hk',zva hfx hd,e2,Bool.false_or];generalize decide (z8 (zdZ (t.Fs.getD (k - 1) default).At) (zdZ (t.Fs.getD k default).At)<0)=E4;cases E2 <;>cases E3 <;>cases E4 <;>rfl)
  (λH K D=>by
   show (zoC g a i t.Fs.length t).ev H K D=_;unfold zoC;simp only [Wy.ev_i,Wy.ev_k,tT,Nat.lt_irrefl]) n hn
theorem zbeP (g:At->Bool×Bool) (a:yB) {d:Nat} (h:zn (d+1) a) (hd:d<=99) (hg:∀ t∈a,∀ f∈t.Fs,g f.At=(true,vat f.At)) (hk:∀ x,vat x=true->0<=x.Kind/\x.Kind<=4) (n:Nat) (hn:a.length<n):
  zJ9 g n a 0=(true,bif zer (zCk vat a) a.length 0 then .inr () else .inl false):=by
 have hl:=h.1
 exact zcz (W:=zJT g) (z:=.inl default) a.length (λk=>(a,(k:Int),())) (λ_=>()) (zCk vat a) (.inl false) (.inr ())
  (λk hk1 H K D=>by
   show (zqE g a k).ev H K D=_;unfold zqE zCk;have ht:=h.2 _ (zm hk1)
   have hgt:decide ((k:Int)>0)= !decide (k=0):=by
    by_cases h:k=0
    ·subst h; rfl
    ·have:0<k:=by omega
     simp [h,this]
   simp only [At.eta,Wy.ev_i,Wy.ev_k,Wy.ev_h,Wy.ev_bn,Wy.ev_d,tT,hk1,hgt];rw [zbd3 vat g a k _ ht hd (hg _ (zm hk1)) hk _ (by omega)]
   have e1:decide ((a.getD k default).Cf<1)= !decide (1<=(a.getD k default).Cf):=by
    by_cases h:1<=(a.getD k default).Cf
    ·have:¬ (a.getD k default).Cf<1:=by omega
     simp only [h,this,decide_true,decide_false,Bool.not_true]
    ·have:(a.getD k default).Cf<1:=by omega
     simp only [h,this,decide_true,decide_false,Bool.not_false]
   have e3:decide ((a.getD k default).Cf>1152921504606846976)= !decide ((a.getD k default).Cf<=1152921504606846976):=by
    by_cases h:(a.getD k default).Cf<=1152921504606846976
    ·have:¬ (a.getD k default).Cf>1152921504606846976:=by omega
     simp only [h,this,decide_true,decide_false,Bool.not_true]
    ·have:(a.getD k default).Cf>1152921504606846976:=by omega
     simp only [h,this,decide_true,decide_false,Bool.not_false]
   rw [e1,e3];generalize decide (1<=(a.getD k default).Cf)=E1;generalize decide ((a.getD k default).Cf<=1152921504606846976)=E2;by_cases h0:k=0
   ·subst h0;simp only [decide_true,Bool.not_true,cond_false,Bool.true_or,Bool.and_true];cases okF vat (a.getD 0 default).Fs <;>cases E1 <;>cases E2 <;>try rfl
   ·have hp:IntKind.i64.wrap ((k:Int) - 1)=((k - 1:Nat):Int):=zxU (by omega) (by omega)
    have hk':k - 1<a.length:=by omega
    have hfx:zfI (zn d) (a.getD (k - 1) default).Fs:=h.2 _ (zm hk')
    have e2:∀ z:Int,decide (z≥0)= !decide (z<0):=λz=>by
     by_cases h:z<0
     ·have:¬ z≥0:=by omega
      simp [h,this]
     ·have:z≥0:=by omega
      simp [h,this]
    simp only [h0,hp,tT,hk',zrO hfx hd,e2,Bool.false_or];generalize decide (zbn (zbr (a.getD (k - 1) default).Fs) (zbr (a.getD k default).Fs)<0)=E4;cases okF vat (a.getD k default).Fs <;>cases E1 <;>cases E2 <;>cases E4 <;>try rfl
    simp only [cond_true,cond_false,Bool.not_true,isL,getR,Bool.and_self];rw [zy (by omega),decide_eq_false (show ¬ ((k - 1:Nat):Int)<0 by omega)]; rfl)
  (λH K D=>by
   show (zqE g a a.length).ev H K D=_;unfold zqE;simp only [Wy.ev_i,Wy.ev_k,tT,Nat.lt_irrefl]) n hn
theorem z5x (g:At->Bool×Bool) (a:yB) {d:Nat} (h:zn (d+1) a) (hd:d<=99) (hs:zM a<=4611686018427387904) (hg:zfj a=true->∀ t∈a,∀ f∈t.Fs,g f.At=(true,vat f.At)) (hk:∀ x,vat x=true->0<=x.Kind/\x.Kind<=4):zzR g a=(true,zwN vat a):=by
 unfold zzR zLA zwN;rw [Wy.fin_bn,z6M h (by omega) hs]
 cases hw:zfj a with
 | false=>rfl
 | true=>
  have:=zbeP vat g a h hd (hg hw) hk ((a.length+Int.toNat (0:Int)+(1:Nat))+zgt a) (by omega)
  simp only [Wy.fin_i,Wy.fin_k,Wy.fin_bn,this,cond_true];cases zer (zCk vat a) a.length 0 <;>rfl
end
theorem zWI {l:yA} {a:yB} (h:a∈l):zM a<=zeY l:=by
 induction l with
 | nil=>cases h
 | cons b r ih=>
  rw [zeH];rcases qd.1 h with rfl | h
  ·omega
  ·have:=ih h; omega
theorem zUm {l:yD} {w:Wd} (h:w∈l):zM w.Ann<=zda l:=by
 induction l with
 | nil=>cases h
 | cons b r ih=>
  rw [zh8];rcases qd.1 h with rfl | h
  ·omega
  ·have:=ih h; omega
theorem zTD {m:Nat} {a:yB} (h:zbx m a=true):isB a=isU a:=by
 cases m with
 | zero=>cases h
 | succ m=>
 match a with
 | []=>rfl
 | [t]=>
  simp only [zbx,zwN,qc] at h;have h1:=zdx.1 h.2 0 (by omega) (by simp)
  simp only [zCk,qc] at h1;have h2:=h1.2;obtain ⟨c,fs⟩:=t
  match fs with
  | []=>rfl
  | [f]=>
   have h3:=zdx.1 h2 0 (by omega) (by simp)
   simp only [zMf,qc] at h3;have h4:=zBV h3.2;simp only [List.getD_cons_zero] at h4;show (c==1&&(f.Exp==1&&decide (2<=f.At.Kind)))=(c==1&&(f.Exp==1&&(f.At.Kind==2||f.At.Kind==3||f.At.Kind==4)))
   have e:decide (2<=f.At.Kind)=(f.At.Kind==2||f.At.Kind==3||f.At.Kind==4):=by
    rw [zf8,zf8,zf8, <- Bool.decide_or, <- Bool.decide_or];congr 1;apply propext; omega
   rw [e]
  | f::f'::r=>rfl
 | t::u::r=>rfl
theorem zbd5 (g) (l:yA):zcE g l=IG (λ(_:Unit) x=>g x) (l.length+(Int.ofNat l.length).toNat +Int.toNat (0:Int)+(1:Nat)) () l:=rfl
theorem zbdZ (g) (l:yD):zcX g l=IG (λ(_:Unit) x=>g x) (l.length+(Int.ofNat l.length).toNat +Int.toNat (0:Int)+(1:Nat)) () l:=rfl
theorem zLH:∀ n,
  (∀ d m a,zn d a->10*d<=n->d<=m->d<=100->zM a<=4611686018427387904->zjF n a=(true,zbx m a))/\
  (∀ d m x,zc7 (zn d) x->10*d+9<=n->d<=m->d<=99->ze6 x<=4611686018427387904->zmj n x=(true,zd8 (zbx m) x))/\
  (∀ d m a,zn d a->10*d+6<=n->d<=m->d<=99->zM a<=4611686018427387904->ze2 n a=(true, !(zbx m a&& !(a.length==0))))/\
  (∀ d m (w:Wd),zn d w.Ann->10*d+6<=n->d<=m->d<=99->zM w.Ann<=4611686018427387904->ze3 n w=(true, !(zbx m w.Ann&& !(w.Ann.length==0))))/\
  (∀ d m (l:yA),l.length<=1000000->(∀ a∈l,zn d a/\zM a<=4611686018427387904)->10*d+7<=n->d<=m->d<=99->zcD n l=(true,ixf (λa=> !(zbx m a&& !(a.length==0))) l 0))/\
  (∀ d m (l:yA),l.length<=1000000->(∀ a∈l,zn d a/\zM a<=4611686018427387904)->10*d+8<=n->d<=m->d<=99->zcn n l=(true, !zqp (zbx m) l))/\
  (∀ d m (l:yD),l.length<=1000000->(∀ a∈l,zn d a.Ann/\zM a.Ann<=4611686018427387904)->10*d+7<=n->d<=m->d<=99->zc3 n l=(true,ixf (λa=> !(zbx m a.Ann&& !(a.Ann.length==0))) l 0))/\
  (∀ d m (l:yD),l.length<=1000000->(∀ a∈l,zn d a.Ann/\zM a.Ann<=4611686018427387904)->10*d+8<=n->d<=m->d<=99->zcL n l=(true, !zAS (zbx m) l))
 | 0=>by
  refine ⟨?_, ?_, ?_, ?_, ?_, ?_, ?_, ?_⟩
  ·intro d m a h hd; have:d=0:=by omega
   subst this; exact h.elim
  all_goals (intros; omega)
 | n+1=>by
  obtain ⟨h1,h2,h3,h4,h5,h6,h7,h8⟩:=zLH n;refine ⟨?_, ?_, ?_, ?_, ?_, ?_, ?_, ?_⟩
  ·intro d m a h hd hm hd2 hs;cases d with
   | zero=>exact h.elim
   | succ d=>
    cases m with
    | zero=>omega
    | succ m=>
     rw [zOA]
     exact z7O _ _ a h (by omega) hs λt ht f hf=>h2 d m f.At ((h.2 t ht).2 f hf) (by omega) (by omega) (by omega) (by
      have:=z0Q ht hf; rw [zhj]; omega)
  ·intro d m x h hd hm hd2 hs;rw [zHO];rw [zhj] at hs
   exact zZ3 _ _ _ _ _ x h hd2 (h6 d m _ h.1.1 (λa ha=>⟨h.2.1 a ha,by have:=zWI ha; omega⟩) (by omega) hm hd2)
    (h8 d m _ h.1.2.1 (λa ha=>⟨(h.2.2 a ha).2,by have:=zUm ha; omega⟩) (by omega) hm hd2)
  ·intro d m a h hd hm hd2 hs;rw [zDJ];unfold zj0 zuQ;rw [Wy.fin_bn,h1 d m a h (by omega) hm (by omega) hs]
   simp only [cond_true,Wy.fin_i,Wy.fin_k,show (Int.ofNat a.length==(0:Int))=(a.length==0) from zr6 a.length 0]
   cases zbx m a <;>simp
  ·intro d m a h hd hm hd2 hs;rw [zDp];unfold zj4 zuT;rw [Wy.fin_bn,h1 d m a.Ann h (by omega) hm (by omega) hs]
   simp only [cond_true,Wy.fin_i,Wy.fin_k,show (Int.ofNat a.Ann.length==(0:Int))=(a.Ann.length==0) from zr6 a.Ann.length 0]
   cases zbx m a.Ann <;>simp
  ·intro d m l hl h hd hm hd2;rw [zmg,zbd5];exact zHb _ _ _ _ _ (by omega) (λx hx=>h3 d m x (h x hx).1 (by omega) hm hd2 (h x hx).2) (by omega)
  ·intro d m l hl h hd hm hd2;rw [zlf];unfold zck zfg;rw [zkj (h5 d m l hl h (by omega) hm hd2)]
   simp [zqp,List.all_eq_not_any_not]
  ·intro d m l hl h hd hm hd2;rw [zom,zbdZ];exact zHb _ _ _ _ _ (by omega) (λx hx=>h4 d m x (h x hx).1 (by omega) hm hd2 (h x hx).2) (by omega)
  ·intro d m l hl h hd hm hd2;rw [zms];unfold zcJ zgl;rw [zkj (h7 d m l hl h (by omega) hm hd2)]
   simp [zAS,List.all_eq_not_any_not]
theorem z5y {a:yB} (h:zfj a=true) {t:Term} (ht:t∈a) {f:Fc} (hf:f∈t.Fs):f.At.Items.length<=1024/\f.Exp<=64/\t.Fs.length<=64:=by
 simp only [zfj,qc,List.all_eq_true] at h;have:=h.2 t ht;simp only [zzQ,Bool.not_eq_true',Bool.or_eq_false_iff,decide_eq_false_iff_not,List.any_eq_false] at this;have h2:=this.2 f hf;simp at h2;omega
theorem zZz:∀ n,
  (∀ d m a,zn d a->3*d<=n->d<=m->d<=100->zM a<=4611686018427387904->zzM n a=(true,zbx m a))/\
  (∀ d m x,zc7 (zn d) x->3*d+2<=n->d<=m->d<=99->ze6 x<=4611686018427387904->x.Items.length<=1024->zzh n x=(true,zd8 (zbx m) x))
 | 0=>by
  refine ⟨?_, ?_⟩
  ·intro d m a h hd; have:d=0:=by omega
   subst this; exact h.elim
  ·intros; omega
 | n+1=>by
  obtain ⟨h1,h2⟩:=zZz n;refine ⟨?_, ?_⟩
  ·intro d m a h hd hm hd2 hs;cases d with
   | zero=>exact h.elim
   | succ d=>
    cases m with
    | zero=>omega
    | succ m=>
     rw [zXI]
     exact z5x _ _ a h (by omega) hs (λhw t ht f hf=>h2 d m f.At ((h.2 t ht).2 f hf) (by omega) (by omega) (by omega) (by
      have:=z0Q ht hf; rw [zhj]; omega) (z5y hw ht hf).1) λx hx=>zBV hx
  ·intro d m x h hd hm hd2 hs h10;rw [zP8];rw [zhj] at hs
   exact zZb _ _ x h hd2 h10 (λa ha=>zTD ha) (λa ha=>h1 d m a (h.2.1 a ha) (by omega) hm (by omega) (by have:=zWI ha; omega))
    λa ha=>h1 d m a.Ann (h.2.2 a ha).2 (by omega) hm (by omega) (by have:=zUm ha; omega)
def zS (a:yB):Bool:=zbx 100 a
theorem z0Z {d:Nat} {a:yB} (h:zn d a) (hd:d<=100) (hs:zM a<=4611686018427387904):zcb a=(true,zS a):=(zLH 1000).1 d 100 a h (by omega) hd hd hs
theorem zYe {d:Nat} {a:yB} (h:zn d a) (hd:d<=100) (hs:zM a<=4611686018427387904):zjp a=(true,zS a):=(zZz 1000).1 d 100 a h (by omega) hd hd hs
def zWz (a:yB):Wy0 (yB×Int):=.bn (zHC a) λr0=>.i (!r0) (.k ([],6)) (.k (a,0))
def zsM (a:yB):=(zWz a).fin default
def z5n:Wy0 (yB):=.k [TO.mk 1 []]
def zTc:Bool×yB:=(z5n).fin default
theorem zWo {τ:Type} [Inhabited τ] {l:List τ} {x:τ} (h:x∈l):∃ i,i<l.length/\l.getD i default=x:=by
 obtain ⟨i,hi,e⟩:=List.mem_iff_getElem.1 h;exact ⟨i,hi,by rw [List.getD_eq_getElem?_getD,List.getElem?_eq_getElem hi]; exact e⟩
theorem zEC {vat:At->Bool} {a:yB} (h:zwN vat a=true):zfj a=true:=by
 simp only [zwN,qc] at h; exact h.1
theorem zuO {vat:At->Bool} {a:yB} (h:zwN vat a=true) {t:Term} (ht:t∈a):(1<=t.Cf/\t.Cf<=1152921504606846976)/\okF vat t.Fs=true:=by
 simp only [zwN,qc] at h;obtain ⟨i,hi,rfl⟩:=zWo ht;have:=zdx.1 h.2 i (by omega) (by omega)
 simp only [zCk,qc,qe] at this;exact ⟨this.1.1,this.2⟩
theorem zo3 {vat:At->Bool} {fs:yC} (h:okF vat fs=true) {f:Fc} (hf:f∈fs):(1<=f.Exp/\(f.At.Kind=3\/f.At.Kind=4->f.Exp=1))/\vat f.At=true:=by
 obtain ⟨i,hi,rfl⟩:=zWo hf;have:=zdx.1 h i (by omega) (by omega)
 simp only [zMf,qc,qe] at this;refine ⟨⟨this.1.1.1,λhk=> ?_⟩,this.2⟩
 have h2:=this.1.1.2;rcases hk with hk | hk
 ·rw [hk] at h2; simpa using h2
 ·rw [hk] at h2; simpa using h2
theorem zba4 {b:Value} (h:bz b=true):b=⟨0,0,ByteArray.mk #[]⟩:=by
 unfold bz at h;rw [zAJ] at h;simp only [qc,beq_iff_eq,qe,and_true] at h;obtain ⟨k,i,t⟩:=b;simp only at h;obtain ⟨rfl,rfl,rfl⟩:=h;rfl
theorem zuL {v:Value} (h:zrx v=true):v.Text.size<=255:=by
 simp only [zrx,Bool.or_eq_true,qc,beq_iff_eq,qe] at h;omega
theorem zQt {x:At} (h:plA x=true):x.Func=0/\x.Items=[]/\x.Op=0/\x.Bd=⟨0,0,ByteArray.mk #[]⟩:=by
 simp only [plA,qc,beq_iff_eq] at h;exact ⟨h.1.1.1,List.length_eq_zero_iff.1 h.1.1.2,h.1.2,zba4 h.2⟩
theorem zbcd {r:RowID} (h:rz r=true):r=⟨0,0⟩:=by
 simp only [rz,qc,beq_iff_eq,and_true] at h;obtain ⟨t,s⟩:=r;simp only at h;obtain ⟨rfl,rfl⟩:=h; rfl
inductive VA (V:yB->Bool):At->Prop
 | var (r:RowID) (h:zyz r=true):VA V ⟨0,r,[],0,[],0,⟨0,0,ByteArray.mk #[]⟩⟩
 | mon (a b:yB) (ha:V a=true) (hb:V b=true) (ha0:a≠[]) (hb0:b≠[]) (h:a≠b):VA V ⟨1,⟨0,0⟩,[a,b],0,[],0,⟨0,0,ByteArray.mk #[]⟩⟩
 | del (a:yB) (ha:V a=true) (ha0:a≠[]) (h:isC a=false) (h':isU a=false):VA V ⟨2,⟨0,0⟩,[a],0,[],0,⟨0,0,ByteArray.mk #[]⟩⟩
 | abs (a:yB) (ha:V a=true) (ha0:a≠[]) (h:zwX a=false):VA V ⟨3,⟨0,0⟩,[a],0,[],0,⟨0,0,ByteArray.mk #[]⟩⟩
 | tst (f:Int) (l:yD) (o:Int) (b:Value) (hl:l≠[]) (hi:∀ w∈l,V w.Ann=true/\w.Ann≠[]) (hs:zTF l=true) (hf:zzk f l o b=true):VA V ⟨4,⟨0,0⟩,[],f,l,o,b⟩
theorem zdv {V:yB->Bool} {x:At}:zd8 V x=true↔VA V x:=by
 constructor
 ·intro h;have hk:=zBV h;obtain ⟨k,r,l,f,its,o,b⟩:=x;simp only at hk;unfold zd8 at h;simp only [qc] at h;obtain ⟨h1,h2⟩:=h
  have ha:∀ a∈l,V a=true/\a≠[]:=λa ha=>by
   have:=List.all_eq_true.1 h1 a ha;simp only [qc,Bool.not_eq_true',beq_eq_false_iff_ne] at this;exact ⟨this.1,λe=>this.2 (by rw [e]; rfl)⟩
  by_cases h0:k=0
  ·subst h0;simp only [if_true,qc,beq_iff_eq] at h2;obtain ⟨e1,e2,e3,e4⟩:=zQt h2.1.1;simp only at e1 e2 e3 e4;subst e1 e2 e3 e4;obtain rfl:l=[]:=List.length_eq_zero_iff.1 h2.2;exact .var r h2.1.2
  simp only [h0,if_false,qc] at h2;obtain ⟨hr,h2⟩:=h2;have hr':=zbcd hr;subst hr';by_cases h0':k=1
  ·subst h0';simp only [if_true,qc] at h2;obtain ⟨e1,e2,e3,e4⟩:=zQt h2.1;simp only at e1 e2 e3 e4;subst e1 e2 e3 e4
   match l,h2.2,ha with
   | [a,b],h3,ha=>exact .mon a b (ha a (by simp)).1 (ha b (by simp)).1 (ha a (by simp)).2 (ha b (by simp)).2 (by simpa [zYT] using h3)
  simp only [h0',if_false] at h2;by_cases h2':k=2
  ·subst h2';simp only [if_true,qc] at h2;obtain ⟨e1,e2,e3,e4⟩:=zQt h2.1;simp only at e1 e2 e3 e4;subst e1 e2 e3 e4
   match l,h2.2,ha with
   | [a],h3,ha=>
    simp only [zD8,qc,Bool.not_eq_true'] at h3;exact .del a (ha a (by simp)).1 (ha a (by simp)).2 h3.1 h3.2
  simp only [h2',if_false] at h2;by_cases h3':k=3
  ·subst h3';simp only [if_true,qc] at h2;obtain ⟨e1,e2,e3,e4⟩:=zQt h2.1;simp only at e1 e2 e3 e4;subst e1 e2 e3 e4
   match l,h2.2,ha with
   | [a],h3,ha=>
    simp only [zD8,Bool.not_eq_true'] at h3;exact .abs a (ha a (by simp)).1 (ha a (by simp)).2 h3
  simp only [h3',if_false] at h2;have h4':k=4:=by omega
  subst h4';simp only [if_true,qc,beq_iff_eq,qe] at h2;obtain ⟨⟨⟨⟨h3,h4⟩,h5⟩,h6⟩,h7⟩:=h2;obtain rfl:l=[]:=List.length_eq_zero_iff.1 h3
  exact .tst f its o b (λe=>by rw [e] at h4; simp at h4) (λw hw=>by
   have:=List.all_eq_true.1 h5 w hw;simp only [qc,Bool.not_eq_true',beq_eq_false_iff_ne] at this;exact ⟨this.1,λe=>this.2 (by rw [e]; rfl)⟩) h6 h7
 ·intro h
  have ne:∀ a:yB,a≠[]->(a.length==0)=false:=λa ha=>by
   rw [beq_eq_false_iff_ne]; exact λe=>ha (List.length_eq_zero_iff.1 e)
  cases h with
  | var r h=>simp [zd8,zqp,plA,bz,h]
  | mon a b ha hb ha0 hb0 h=>simp [zd8,zqp,plA,bz,rz,zYT,ha,hb,ha0,hb0,h]
  | del a ha ha0 h h'=>simp [zd8,zqp,plA,bz,rz,zD8,ha,ha0,h,h']
  | abs a ha ha0 h=>simp [zd8,zqp,plA,bz,rz,zD8,ha,ha0,h]
  | tst f l o b hl hi hs hf=>
   have h1:zAS V l=true:=List.all_eq_true.2 λw hw=>by rw [(hi w hw).1,ne _ (hi w hw).2]; rfl
   have h2:0<l.length:=by
    cases l with
    | nil=>exact absurd rfl hl
    | cons x r=>simp
   simp [zd8,zqp,rz,h1,hs,hf,h2]
theorem zvy {a:yB} (h:zfj a=true):a.length<=512/\zbm a<=8/\zM a<=4096/\∀ t∈a,t.Fs.length<=64/\∀ f∈t.Fs,f.Exp<=64/\f.At.Items.length<=1024:=by
 simp only [zfj,qc,List.all_eq_true,qe] at h;refine ⟨h.1.1.1,h.1.1.2,h.1.2,λt ht=> ?_⟩
 have:=h.2 t ht;simp only [zzQ,Bool.not_eq_true',Bool.or_eq_false_iff,decide_eq_false_iff_not,List.any_eq_false] at this;refine ⟨by omega,λf hf=> ?_⟩
 have h2:=this.2 f hf;simp at h2;omega
theorem zX2 {a:yB} {t:Term} (h:t∈a):zdi t.Fs<=zbm a:=by
 induction a with
 | nil=>cases h
 | cons b r ih=>
  rw [zwq];rcases qd.1 h with rfl | h
  ·omega
  ·have:=ih h; omega
theorem zNR {l:yC} {f:Fc} (h:f∈l):znh f.At<=zdi l:=by
 induction l with
 | nil=>cases h
 | cons b r ih=>
  rw [zi0];rcases qd.1 h with rfl | h
  ·omega
  ·have:=ih h; omega
theorem zMo {l:yA} {a:yB} (h:a∈l):zbm a<=zlY l:=by
 induction l with
 | nil=>cases h
 | cons b r ih=>
  rw [zBM];rcases qd.1 h with rfl | h
  ·omega
  ·have:=ih h; omega
theorem z3A {l:yD} {w:Wd} (h:w∈l):zbm w.Ann<=zkN l:=by
 induction l with
 | nil=>cases h
 | cons b r ih=>
  rw [zzS];rcases qd.1 h with rfl | h
  ·omega
  ·have:=ih h; omega
theorem zsk {f:Int} {l:yD} {o:Int} {b:Value} (h:zzk f l o b=true):(0<=f/\f<=3/\5<=o/\o<=10)/\zrx b=true/\∀ w∈l,zrx w.Value=true/\w.Value.Kind=b.Kind:=by
 simp only [zzk,qc,List.all_eq_true,qe] at h;obtain ⟨⟨⟨⟨⟨⟨h1,h2⟩,h3⟩,h4⟩,h5⟩,h6⟩,h7⟩:=h;refine ⟨⟨h1,h2,h3,h4⟩,h5,λw hw=> ?_⟩
 have:=h7 w hw;simp only [zKa,qc,beq_iff_eq] at this;exact this.1
theorem zYd:∀ (m:Nat) (a:yB),zbx m a=true->zn (zbm a+1) a
 | 0,a,h=>by cases h
 | m+1,a,h=>by
  have hw:=zvy (zEC h);refine ⟨by omega,λt ht=> ?_⟩
  obtain ⟨_,hok⟩:=zuO h ht;obtain ⟨h1,h2⟩:=hw.2.2.2 t ht;refine ⟨by omega,λf hf=> ?_⟩
  have hv:=zdv.1 (zo3 hok hf).2;have hn:znh f.At<=zbm a:=Nat.le_trans (zNR hf) (zX2 ht);have h3:=(h2 f hf).2;generalize f.At=x at hv hn h3;rw [zBG] at hn;have ih:∀ b,zbx m b=true->zbm b+1<=zbm a->zn (zbm a) b:=λb hb hl=>(zYd m b hb).mono hl
  cases hv with
  | var r h=>exact ⟨⟨by simp,by simp,by show (ByteArray.mk #[]).size<=_; decide⟩,λa ha=>(by cases ha),λw hw=>(by cases hw)⟩
  | mon b c hb hc _ _ _=>
   simp only at hn;refine ⟨⟨by simp,by simp,by show (ByteArray.mk #[]).size<=_; decide⟩,λy hy=> ?_,λw hw=>(by cases hw)⟩
   have:=zMo hy;simp only at this;simp only [qd,List.not_mem_nil,or_false] at hy;rcases hy with rfl | rfl
   ·exact ih _ hb (by simp at hn; omega)
   ·exact ih _ hc (by simp at hn; omega)
  | del b hb _ _ _=>
   refine ⟨⟨by simp,by simp,by show (ByteArray.mk #[]).size<=_; decide⟩,λy hy=> ?_,λw hw=>(by cases hw)⟩
   have:=zMo hy;simp only at this;simp only [qd,List.not_mem_nil,or_false] at hy;subst hy;exact ih _ hb (by simp at hn; omega)
  | abs b hb _ _=>
   refine ⟨⟨by simp,by simp,by show (ByteArray.mk #[]).size<=_; decide⟩,λy hy=> ?_,λw hw=>(by cases hw)⟩
   have:=zMo hy;simp only at this;simp only [qd,List.not_mem_nil,or_false] at hy;subst hy;exact ih _ hb (by simp at hn; omega)
  | tst fn l o b hl hi hs hf=>
   obtain ⟨_,hb,hit⟩:=zsk hf;refine ⟨⟨by simp,by simp only at h3 ⊢; omega,by have:=zuL hb; simp only; omega⟩,λy hy=>(by cases hy),λw hw=>⟨by have:=zuL (hit w hw).1; omega, ?_⟩⟩
   have:=z3A hw;simp only at this;exact ih _ (hi w hw).1 (by simp at hn; omega)
theorem zeU {m:Nat} {a:yB} (h:zbx m a=true):zn 9 a/\zM a<=4096/\a.length<=512:=by
 cases m with
 | zero=>cases h
 | succ m=>
 have hw:=zvy (zEC h);exact ⟨(zYd _ a h).mono (by omega),hw.2.2.1,hw.1⟩
theorem z1J {d m m':Nat} {a:yB} (h:zn d a) (hd:d<=100) (h1:d<=m) (h2:d<=m') (hs:zM a<=4611686018427387904):zbx m a=zbx m' a:=by
 have e1:=(zLH 1000).1 d m a h (by omega) h1 hd hs
 have e2:=(zLH 1000).1 d m' a h (by omega) h2 hd hs
 rw [e1] at e2;exact (Prod.mk.injEq _ _ _ _ ▸ e2).2
theorem z4o {m:Nat} {a:yB} (h:zbx m a=true) (hm:9<=m):zS a=true:=by
 obtain ⟨h1,h2,h3⟩:=zeU h;rw [<- h]; exact z1J h1 (by omega) (by omega) hm (by omega)
theorem zXi {m:Nat} {a:yB} (h:zS a=true) (hm:9<=m):zbx m a=true:=by
 obtain ⟨h1,h2,h3⟩:=zeU h;rw [<- h]; exact z1J h1 (by omega) hm (by omega) (by omega)
theorem VA.imp {V V':yB->Bool} (hV:∀ a,V a=true->V' a=true) {x:At} (h:VA V x):VA V' x:=by
 cases h with
 | var r h=>exact .var r h
 | mon a b ha hb ha0 hb0 h=>exact .mon a b (hV a ha) (hV b hb) ha0 hb0 h
 | del a ha ha0 h h'=>exact .del a (hV a ha) ha0 h h'
 | abs a ha ha0 h=>exact .abs a (hV a ha) ha0 h
 | tst f l o b hl hi hs hf=>exact .tst f l o b hl (λw hw=>⟨hV _ (hi w hw).1,(hi w hw).2⟩) hs hf
def zoG (x:At):Bool:=zd8 zS x
theorem z8J {m:Nat} (hm:9<=m):zd8 (zbx m)=zoG:=by
 funext x
 rw [Bool.eq_iff_iff];unfold zoG;rw [zdv,zdv];exact ⟨VA.imp λa h=>z4o h hm,VA.imp λa h=>zXi h hm⟩
theorem zZp (a:yB):zS a=zwN zoG a:=by
 show zwN (zd8 (zbx 99)) a=_;rw [z8J (by omega)]
theorem zWY {τ:Type} [Inhabited τ] {l:List τ} {i:Nat} (h:i<l.length):l.set i (l.getD i default)=l:=by
 rw [List.getD_eq_getElem?_getD,List.getElem?_eq_getElem h]; simp
section
variable (g:yB->Bool×yB) (gx:At->Bool×At)
theorem zbeX (t8:yB) (t9 t10:Int) (out:yB) (t:Term) (l:yC) (hl:l.length<=1000000) (hg:∀ f∈l,gx f.At=(true,f.At)) (n:Nat) (hn:l.length<n):
  zzt gx n t8 t9 t10 l.length 0 out t l=(true,(t8,t9,t10,out,t,l)):=by
 have:=zcz (W:=zs7 gx) (z:=default) l.length (λi=>((),(),(),t8,t9,t10,(l.length:Int),(i:Int),())) (λ_=>(out,t,l,())) (λ_=>true) default (t8,t9,t10,out,t,l)
  (λi hi H K D=>by
   show (zjj gx t8 t9 t10 l.length i out t l).ev H K D=_;unfold zjj;simp only [At.eta,Wy.ev_i,Wy.ev_k,Wy.ev_h,Wy.ev_bn,Wy.ev_d,tT,hi,hg _ (zm hi)];rw [zy (by omega)]
   have:(l.set i (⟨(l.getD i default).At,(l.getD i default).Exp⟩:Fc))=l:=zWY hi;rw [this])
  (λH K D=>by
   show (zjj gx t8 t9 t10 l.length l.length out t l).ev H K D=_;unfold zjj;simp only [Wy.ev_i,Wy.ev_k,tT,Nat.lt_irrefl]) n hn
 rw [show zer (λ_=>true) l.length 0=true from zdx.2 λ_ _ _=>rfl] at this
 exact this
theorem zbeE (a:yB) (hl:a.length<=1000000) (hg:∀ t∈a,t.Fs.length<=1000000/\∀ f∈t.Fs,gx f.At=(true,f.At)) (n:Nat) (hn:a.length<n):
  zzy gx n a a.length 0 []=(true,a):=by
 have hreach:zI=70368744177664:=rfl
 have:=zcz (W:=zsZ gx) (z:=default) a.length (λi=>((),a,(a.length:Int),(i:Int),())) (λi=>(a.take i,())) (λ_=>true) default a
  (λi hi H K D=>by
   show (zjk gx a a.length i (a.take i)).ev H K D=_;unfold zjk zcf;obtain ⟨h1,h2⟩:=hg _ (zm hi);have hb:decide ((a.getD i default).Fs.length*128<=zI)=true:=by simp only [qe]; omega
   simp only [Wy.ev_i,Wy.ev_k,Wy.ev_h,Wy.ev_bn,Wy.ev_d,tT,hi,hb];rw [zbeX gx a a.length i (a.take i) _ _ h1 h2 _ (by omega)]
   have hb2:decide (((a.take i).length+1)*32<=zI)=true:=by simp only [qe,List.length_take]; omega
   simp only [cond_true,List.length_singleton,hb2];rw [zy (by omega),zgJ hi])
  (λH K D=>by
   show (zjk gx a a.length a.length (a.take a.length)).ev H K D=_;unfold zjk;simp only [Wy.ev_i,Wy.ev_k,tT,Nat.lt_irrefl,List.take_length]) n hn
 rw [show zer (λ_=>true) a.length 0=true from zdx.2 λ_ _ _=>rfl] at this
 exact this
end
def txV (v:Value):List UInt8:=if v.Kind=0 then ziu v.Int else if v.Kind=1 then 39::(v.Text.data.toList.flatMap esc++[39]) else if v.Int=1 then [84,82,85,69] else [70,65,76,83,69]
def txR (r:RowID):List UInt8:=116::(ziu r.Table++46::ziu r.Seq)
def fnT (f:Int):List UInt8:=if f=0 then [67,79,85,78,84] else if f=1 then [83,85,77] else if f=2 then [77,73,78] else [77,65,88]
def opT (o:Int):List UInt8:=if o=5 then [61] else if o=6 then [60,62] else if o=7 then [60] else if o=8 then [60,61] else if o=9 then [62] else [62,61]
def zO7 (ts:List (List UInt8)):List UInt8:=if ts=[] then [48] else zeD ts [32,43,32]
def zTh (c:Int) (fs:List (List UInt8)):List UInt8:=if fs=[] then ziu c else if c=1 then zeD fs [42] else ziu c++42::zeD fs [42]
def zLz (x:List UInt8) (e:Int):List UInt8:=if e=1 then x else x++94::ziu e
def zdk (k:Int) (r:RowID) (xs:List (List UInt8)) (f:Int) (is:List (List UInt8)) (o:Int) (b:Value):List UInt8:=
 if k=0 then txR r
 else if k=1 then [109,111,110,117,115,91]++(xs.getD 0 []++([44,32]++(xs.getD 1 []++[93])))
 else if k=2 then [100,101,108,116,97,91]++(xs.getD 0 []++[93])
 else if k=3 then [97,98,115,101,110,116,91]++(xs.getD 0 []++[93])
 else [116,101,115,116,91]++(fnT f++([123]++(zeD is [59,32]++([125,32]++(opT o++([32]++(txV b++[93])))))))
mutual
def txA:At->List UInt8
 | ⟨k,r,a,f,i,o,b⟩=>zdk k r (z0P a) f (z0E i) o b
def zIr:yC->List (List UInt8)
 | []=>[]
 | ⟨x,e⟩::l=>zLz (txA x) e::zIr l
def zOX:yB->List (List UInt8)
 | []=>[]
 | ⟨c,fs⟩::l=>zTh c (zIr fs)::zOX l
def z0P:yA->List (List UInt8)
 | []=>[]
 | a::l=>zO7 (zOX a)::z0P l
def z0E:yD->List (List UInt8)
 | []=>[]
 | ⟨v,a⟩::l=>(txV v++([58,32]++zO7 (zOX a)))::z0E l
end
def txF (f:Fc):List UInt8:=zLz (txA f.At) f.Exp
def txT (t:Term):List UInt8:=zTh t.Cf (zIr t.Fs)
def txN (a:yB):List UInt8:=zO7 (zOX a)
def txI (w:Wd):List UInt8:=txV w.Value++([58,32]++txN w.Ann)
theorem zxQ:∀ l,zIr l=l.map txF
 | []=>by rw [zIr]; rfl
 | x::r=>by rw [zIr,zxQ r]; rfl
theorem zPa:∀ l,zOX l=l.map txT
 | []=>by rw [zOX]; rfl
 | x::r=>by rw [zOX,zPa r]; rfl
theorem zl2:∀ l,z0P l=l.map txN
 | []=>by rw [z0P]; rfl
 | x::r=>by rw [z0P,zl2 r]; rfl
theorem zIA:∀ l,z0E l=l.map txI
 | []=>by rw [z0E]; rfl
 | x::r=>by rw [z0E,zIA r]; rfl
theorem zbdr (x:At):txA x=zdk x.Kind x.Row (z0P x.Ag) x.Func (z0E x.Items) x.Op x.Bd:=by cases x; rw [txA]
def txL (l:yC):List UInt8:=zeD (zIr l) [42]
theorem zOD {v:Value} (h:zrx v=true):(txV v).length<=512:=by
 have ht:=zuL h;unfold txV;have h1:=zpt v.Int;have h2:=zZK v.Text.data.toList;have h3:v.Text.data.toList.length=v.Text.size:=by rw [Array.length_toList]; rfl
 split
 ·omega
 ·split
  ·simp only [qf,qg,List.length_nil]; omega
  ·split <;>simp
theorem zbcc (r:RowID):(txR r).length<=44:=by
 have h1:=zpt r.Table;have h2:=zpt r.Seq;simp only [txR,qf,qg]; omega
theorem z6u (f:Int):(fnT f).length<=5:=by unfold fnT; (repeat' split) <;>simp
theorem z6W (f:Int):(opT f).length<=2:=by unfold opT; (repeat' split) <;>simp
theorem zP0 {α:Type} (t:α->List UInt8) (m:α->Nat) (s:List UInt8):∀ l:List α,(∀ x∈l,(t x).length+s.length<=m x)->(zeD (l.map t) s).length<=(l.map m).sum
 | [],_=>by simp [zeD]
 | [x],h=>by
  have:=h x (by simp)
  simp only [List.map,zeD,List.sum_cons,List.sum_nil]; omega
 | x::y::r,h=>by
  have h1:=h x (by simp)
  have h2:=zP0 t m s (y::r) λz hz=>h z (List.mem_cons_of_mem _ hz)
  simp only [List.map,zeD,qg,List.sum_cons] at h2 ⊢;omega
theorem zWt:∀ l:yC,(l.map λf=>1000+1000*ze6 f.At).sum=1000*(l.length+zbH l)
 | []=>by rw [ziq]; rfl
 | f::r=>by rw [List.map_cons,List.sum_cons,zWt r,zcZ,qf]; omega
theorem z1l:∀ l:yB,(l.map λt=>1000+1000*(t.Fs.length+zbH t.Fs)).sum=1000*zM l
 | []=>by rw [zvC]; rfl
 | f::r=>by rw [List.map_cons,List.sum_cons,z1l r,zfL]; omega
theorem z1p:∀ l:yD,(l.map λt=>1000+1000*zM t.Ann).sum=1000*zda l
 | []=>by rw [zfs]; rfl
 | f::r=>by rw [List.map_cons,List.sum_cons,z1p r,zh8]; omega
theorem zbcn {x:At} {e:Int} (h:(txA x).length<=700+1000*ze6 x):(zLz (txA x) e).length+1<=1000+1000*ze6 x:=by
 have:=zpt e;unfold zLz;split
 ·omega
 ·simp only [qg,qf]; omega
theorem z4P {l:yC} (h:∀ f∈l,(txA f.At).length<=700+1000*ze6 f.At):(txL l).length<=1000*(l.length+zbH l):=by
 unfold txL;rw [zxQ, <- zWt];exact zP0 txF (λf=>1000+1000*ze6 f.At) [42] l λf hf=>zbcn (h f hf)
theorem zVj:∀ (m:Nat),(∀ a,zbx m a=true->(txN a).length<=1+1000*zM a)/\(∀ x,zd8 (zbx m) x=true->(txA x).length<=700+1000*ze6 x)
 | m=>by
  have hA:∀ (V:yB->Bool),(∀ a,V a=true->(txN a).length<=1+1000*zM a)->∀ x,zd8 V x=true->(txA x).length<=700+1000*ze6 x:=by
   intro V hV x hx;rw [zhj];cases zdv.1 hx with
   | var r h=>
    rw [txA]; have:=zbcc r;simp only [zdk,if_true]; omega
   | mon a b ha hb _ _ _=>
    have h1:=hV a ha; have h2:=hV b hb;rw [txA,zl2];simp only [zdk,zeH,zgK,zfs,List.map,List.getD_cons_zero,List.getD_cons_succ,qg,qf,List.length_nil];simp only [show ¬ (1:Int)=0 by decide,if_false,if_true,qg,qf,List.length_nil]
    omega
   | del a ha _ _ _=>
    have h1:=hV a ha;rw [txA,zl2];simp only [zdk,zeH,zgK,zfs,List.map,List.getD_cons_zero];simp only [show ¬ (2:Int)=0 by decide,show ¬ (2:Int)=1 by decide,if_false,if_true,qg,qf,List.length_nil]
    omega
   | abs a ha _ _=>
    have h1:=hV a ha;rw [txA,zl2];simp only [zdk,zeH,zgK,zfs,List.map,List.getD_cons_zero];simp only [show ¬ (3:Int)=0 by decide,show ¬ (3:Int)=1 by decide,show ¬ (3:Int)=2 by decide,if_false,if_true,qg,qf,List.length_nil]
    omega
   | tst f l o b hl hi hs hf=>
    obtain ⟨_,hb,hit⟩:=zsk hf;have h1:=z6u f; have h2:=z6W o; have h3:=zOD hb
    have h4:(zeD (l.map txI) [59,32]).length<=1000*zda l:=by
     rw [<- z1p];refine zP0 txI (λw=>1000+1000*zM w.Ann) [59,32] l λw hw=> ?_
     have h5:=hV _ (hi w hw).1; have h6:=zOD (hit w hw).1;simp only [txI,qg,qf,List.length_nil]; omega
    rw [txA,zIA];simp only [zdk,zgK];simp only [show ¬ (4:Int)=0 by decide,show ¬ (4:Int)=1 by decide,show ¬ (4:Int)=2 by decide,show ¬ (4:Int)=3 by decide,if_false,qg,qf,List.length_nil]
    omega
  have hN:∀ a,zbx m a=true->(txN a).length<=1+1000*zM a:=by
   induction m with
   | zero=>intro a h; cases h
   | succ m ih=>
    intro a h;unfold txN zO7;split
    ·simp
    ·rw [zPa, <- z1l];refine Nat.le_trans (zP0 txT (λt=>1000+1000*(t.Fs.length+zbH t.Fs)) [32,43,32] a λt ht=> ?_) (Nat.le_add_left _ _)
     have hok:=(zuO h ht).2;have h5:=z4P (l:=t.Fs) λf hf=>hA _ ih _ (zo3 hok hf).2
     have h6:=zpt t.Cf;have e:(zeD (zIr t.Fs) [42]).length=(txL t.Fs).length:=rfl;unfold txT zTh;simp only [qf,List.length_nil];split
     ·omega
     ·split
      ·omega
      ·simp only [qg,qf]; omega
  exact ⟨hN,hA _ hN⟩
theorem zlW {n:Int} (h:wf3 n): -9223372036854775808<=n/\n<=9223372036854775807:=by
 have h:(Lit.int .i64 n).wf=true:=h;have:IntKind.i64.min<=n/\n<=IntKind.i64.max:=by simpa [Lit.wf] using h
 exact ⟨this.1,this.2⟩
def rng (n:Int):Prop:= -9223372036854775808<=n/\n<=9223372036854775807
instance (n:Int):Decidable (rng n):=by unfold rng; infer_instance
theorem zXP {n:Int} (h:rng n):strconv_Itoa n=(true,bs (ziu n)):=by
 unfold strconv_Itoa zPz zLw;rw [decide_eq_true h.1,decide_eq_true h.2]; rfl
theorem z5Z {n:Int} (h:rng n):ziS n 10=(true,bs (ziu n)):=by
 unfold ziS zvq zLw;rw [decide_eq_true h.1,decide_eq_true h.2]; rfl
theorem okS (n m:Nat) (h:n+m<=9223372036854775807):decide (n+m<=9223372036854775807)=true:=decide_eq_true h
theorem z9C {r:RowID} (h:zyz r=true) (h1:rng r.Table) (h2:rng r.Seq):zwn r=(true,bs (txR r)):=by
 unfold zwn zLm txR;have l1:=zpt r.Table;have l2:=zpt r.Seq;rw [show ByteArray.mk #[(116:UInt8)]=bs [116] from rfl,show ByteArray.mk #[(46:UInt8)]=bs [46] from rfl]
 simp only [Wy.fin_bn,Wy.fin_i,Wy.fin_k,zBq,h,zXP h1,zXP h2,cond_true,cond_false,Bool.not_true,zBX,zug,qg,qf,List.length_nil];rw [okS _ _ (by omega),okS _ _ (by omega),okS _ _ (by omega)]
 simp
theorem z3H {v:Value} (h:zrx v=true) (hr:rng v.Int):zqb v=(true,bs (txV v)):=by
 unfold zqb zNa txV strings_ReplaceAll;have ht:=zuL h;rw [show ByteArray.mk #[(39:UInt8)]=bs [39] from rfl,show ByteArray.mk #[(39:UInt8),(39:UInt8)]=bs [39,39] from rfl]
 simp only [Wy.fin_bn,Wy.fin_i,Wy.fin_k,zyx,h,z5Z hr,zZN _ ht,cond_true,cond_false,Bool.not_true,zBX,zug,qg,qf,List.length_nil];have h2:=zZK v.Text.data.toList;have h3:v.Text.data.toList.length=v.Text.size:=by rw [Array.length_toList]; rfl
 rw [okS _ _ (by omega),okS _ _ (by omega)]
 by_cases k0:v.Kind=0
 ·simp [k0]
 by_cases k1:v.Kind=1
 ·simp [k1]
 simp only [zf8,k0,k1,decide_false,cond_false,if_false];by_cases i1:v.Int=1
 ·simp only [i1,decide_true,cond_true,if_true]; rfl
 ·simp only [i1,decide_false,cond_false,if_false]; rfl
theorem zbcw {f:Int} (h0:0<=f) (h3:f<=3):(decide ((0:Int)<=f)&&decide (f<Int.ofNat zb4.snd.length))=true/\zb4.snd.getD f.toNat default=bs (fnT f):=by
 have hc:f=0\/f=1\/f=2\/f=3:=by omega
 rcases hc with rfl | rfl | rfl | rfl <;>exact ⟨rfl,rfl⟩
theorem zbcs {o:Int} (h0:5<=o) (h3:o<=10):(decide ((0:Int)<=IntKind.i64.wrap (o - 5))&&decide (IntKind.i64.wrap (o - 5)<Int.ofNat zdD.snd.length))=true/\zdD.snd.getD (IntKind.i64.wrap (o - 5)).toNat default=bs (opT o):=by
 have hc:o=5\/o=6\/o=7\/o=8\/o=9\/o=10:=by omega
 rcases hc with rfl | rfl | rfl | rfl | rfl | rfl <;>exact ⟨rfl,rfl⟩
theorem zWi {m:Nat} {x:At} (h:zd8 (zbx m) x=true) (hi:x.Items.length<=1024):ze6 x<=4195328:=by
 rw [zhj];cases zdv.1 h with
 | var r h=>rw [zgK,zfs]; omega
 | mon a b ha hb _ _ _=>
  have h1:=(zeU ha).2.1; have h2:=(zeU hb).2.1;simp only [zeH,zgK,zfs]; omega
 | del a ha _ _ _=>
  have h1:=(zeU ha).2.1;simp only [zeH,zgK,zfs]; omega
 | abs a ha _ _=>
  have h1:=(zeU ha).2.1;simp only [zeH,zgK,zfs]; omega
 | tst f l o b hl hv hs hf=>
  have h1:∀ l:yD,(∀ w∈l,zM w.Ann<=4096)->zda l<=l.length*4097:=λl=>by
   induction l with
   | nil=>intro _; rw [zfs]; omega
   | cons w r ih=>
    intro h;have:=h w (by simp)
    have:=ih λw hw=>h w (by simp [hw])
    rw [zh8,qf,Nat.add_mul]; omega
  have:=h1 l λw hw=>(zeU (hv w hw).1).2.1
  have:=Nat.mul_le_mul hi (Nat.le_refl 4097);simp only [zgK] at this ⊢; omega
section
variable (gA:At->Bool×ByteArray) (gF:yC->Bool×ByteArray) (gT:yB->Bool×ByteArray)
theorem zbcy (l:yC) (hl:l.length<=1000) (hg:∀ f∈l,gA f.At=(true,bs (txA f.At))/\(txA f.At).length<=4200000000/\rng f.Exp):zgr gA l=(true,bs (txL l)):=by
 have hreach:zI=70368744177664:=rfl;unfold zgr ztS
 have:=zcz (W:=zld gA) (z:=default) l.length (λi=>((),l,(l.length:Int),(i:Int),())) (λi=>((l.take i).map λf=>bs (txF f),())) (λ_=>true) default (l.map λf=>bs (txF f))
  (λi hi H K D=>by
   show (zfa gA l l.length i ((l.take i).map λf=>bs (txF f))).ev H K D=_
   unfold zfa;obtain ⟨h1,h2,h3⟩:=hg _ (zm hi);have l1:=zpt (l.getD i default).Exp;rw [show ByteArray.mk #[(94:UInt8)]=bs [94] from rfl]
   simp only [At.eta,Wy.ev_i,Wy.ev_k,Wy.ev_h,Wy.ev_bn,Wy.ev_d,tT,hi,h1,zXP h3,zBX,zug,qg,qf,List.length_nil];rw [okS _ _ (by omega),okS _ _ (by omega),zy (by omega),zgJ hi,List.map_append]
   have hb:decide ((((l.take i).map λf=>bs (txF f)).length+1)*16<=zI)=true:=by simp only [qe,List.length_map,List.length_take]; omega
   generalize ((l.take i).map λf=>bs (txF f))=out at hb ⊢
   have hb':decide ((out.length+(0+1))*16<=zI)=true:=hb;simp only [hb,hb',cond_true,List.map_cons,List.map_nil,txF,zLz,zry];by_cases he:(l.getD i default).Exp=1
   ·simp only [he,decide_true,Bool.not_true,cond_false,if_true]
   ·simp only [he,decide_false,Bool.not_false,cond_true,if_false,List.singleton_append])
  (λH K D=>by
   show (zfa gA l l.length l.length ((l.take l.length).map λf=>bs (txF f))).ev H K D=_
   unfold zfa;simp only [Wy.ev_i,Wy.ev_k,tT,Nat.lt_irrefl,List.take_length]) (l.length+(Int.ofNat l.length).toNat +Int.toNat (0:Int)+(0:Nat)+(1:Nat)) (by omega)
 rw [show zer (λ_=>true) l.length 0=true from zdx.2 λ_ _ _=>rfl] at this
 have e:zto gA (l.length+(Int.ofNat l.length).toNat +Int.toNat (0:Int)+(0:Nat)+(1:Nat)) l (Int.ofNat l.length) (0:Int) []=(true,(l.map txF).map bs):=by rw [List.map_map]; exact this
 have hlen:(zeD (l.map txF) [42]).length<=140737488355328:=by
  refine Nat.le_trans (zSM (B:=4200001000) (l.map txF) [42] λx hx=> ?_) (by
   rw [List.length_map]; have:=Nat.mul_le_mul hl (Nat.le_refl 4200001000); omega)
  obtain ⟨f,hf,rfl⟩:=List.mem_map.1 hx;have:=(hg f hf).2.1;have:=zpt f.Exp;unfold txF zLz;split
  ·simp only [qf,List.length_nil]; omega
  ·simp only [qg,qf,List.length_nil]; omega
 rw [Wy.fin_bn,e,show ByteArray.mk #[(42:UInt8)]=bs [42] from rfl]
 unfold strings_Join;simp only [cond_true,Wy.fin_bn,Wy.fin_k,zXb _ _ (by rw [List.length_map]; omega) hlen]
 unfold txL;rw [zxQ]
theorem zbdF (a:yB) (hl:a.length<=1000) (hlen:(txN a).length<=140737488355328) (hg:∀ t∈a,gF t.Fs=(true,bs (txL t.Fs))/\(txL t.Fs).length<=4200000000/\rng t.Cf):zn8 gF a=(true,bs (txN a)):=by
 have hreach:zI=70368744177664:=rfl;unfold zn8 zC8;by_cases h0:a=[]
 ·subst h0;have e:txN []=[48]:=by unfold txN; rw [zOX]; rfl
  rw [e]; rfl
 have hne:(Int.ofNat a.length==(0:Int))=false:=by
  rw [beq_eq_false_iff_ne]; intro e;have:(a.length:Int)=0:=e;exact h0 (List.length_eq_zero_iff.1 (by omega))
 have:=zcz (W:=zve gF) (z:=default) a.length (λi=>((),a,(a.length:Int),(i:Int),())) (λi=>((a.take i).map λf=>bs (txT f),())) (λ_=>true) default (a.map λf=>bs (txT f))
  (λi hi H K D=>by
   show (zkp gF a a.length i ((a.take i).map λf=>bs (txT f))).ev H K D=_
   unfold zkp;obtain ⟨h1,h2,h3⟩:=hg _ (zm hi);have l1:=zpt (a.getD i default).Cf;rw [show ByteArray.mk #[(42:UInt8)]=bs [42] from rfl]
   have hL:decide ((i:Int)<(a.length:Int))=true:=by simp [hi]
   have hL':decide ((i:Int)<Int.ofNat a.length)=true:=hL;simp only [Wy.ev_i,Wy.ev_k,Wy.ev_h,Wy.ev_bn,Wy.ev_d,hL,hL',zez,Bool.and_self,cond_true,Int.toNat_natCast,h1,z5Z h3,zBX,zug,qg,qf,List.length_nil,show (Int.ofNat (a.getD i default).Fs.length==(0:Int))=((a.getD i default).Fs.length==0) from zr6 _ 0]
   rw [okS _ _ (by omega),okS _ _ (by omega),zy (by omega),zgJ hi,List.map_append]
   have hb:decide ((((a.take i).map λf=>bs (txT f)).length+1)*16<=zI)=true:=by simp only [qe,List.length_map,List.length_take]; omega
   generalize ((a.take i).map λf=>bs (txT f))=out at hb ⊢
   have hb':decide ((out.length+(0+1))*16<=zI)=true:=hb;simp only [hb,hb',cond_true,List.map_cons,List.map_nil,txT,zTh,zf8]
   have e0:(zIr (a.getD i default).Fs=[])↔(a.getD i default).Fs.length=0:=by
    rw [zxQ,List.map_eq_nil_iff,List.length_eq_zero_iff]
   by_cases hf:(a.getD i default).Fs.length=0
   ·rw [if_pos (e0.2 hf),hf]; rfl
   ·rw [if_neg (λe=>hf (e0.1 e)),zXa,decide_eq_false hf]
    by_cases he:(a.getD i default).Cf=1
    ·simp only [he,decide_true,cond_true,cond_false,if_true,txL]
    ·simp only [he,decide_false,cond_false,if_false,txL,List.append_assoc,List.singleton_append])
  (λH K D=>by
   show (zkp gF a a.length a.length ((a.take a.length).map λf=>bs (txT f))).ev H K D=_
   unfold zkp;simp only [Wy.ev_i,Wy.ev_k,tT,Nat.lt_irrefl,List.take_length]) (a.length+(Int.ofNat a.length).toNat +Int.toNat (0:Int)+(0:Nat)+(1:Nat)) (by omega)
 rw [show zer (λ_=>true) a.length 0=true from zdx.2 λ_ _ _=>rfl] at this
 have e:zCw gF (a.length+(Int.ofNat a.length).toNat +Int.toNat (0:Int)+(0:Nat)+(1:Nat)) a (Int.ofNat a.length) (0:Int) []=(true,(a.map txT).map bs):=by rw [List.map_map]; exact this
 have ex:txN a=zeD (a.map txT) [32,43,32]:=by
  unfold txN zO7;rw [zPa,if_neg (by simpa using h0)]
 rw [ex] at hlen ⊢;rw [Wy.fin_i,hne,cond_false,Wy.fin_bn,e,show ByteArray.mk #[(32:UInt8),(43:UInt8),(32:UInt8)]=bs [32,43,32] from rfl]
 unfold strings_Join;simp only [cond_true,Wy.fin_bn,Wy.fin_k,zXb _ _ (by rw [List.length_map]; omega) hlen]
theorem zbcz {V:yB->Bool} (x:At) (hx:zd8 V x=true) (hw:zgz x) (hi:x.Items.length<=1024) (hg:∀ a,(a∈x.Ag\/∃ w∈x.Items,a=w.Ann)->gT a=(true,bs (txN a))/\(txN a).length<=4200000000):ziI gT x=(true,bs (txA x)):=by
 have hreach:zI=70368744177664:=rfl;have W:=zsb hw;unfold ziI zxl;rw [zbdr];cases zdv.1 hx with
 | var r h=>
  have hr:=W.2.2.2.2.1;simp only [Wy.fin_bn,Wy.fin_i,Wy.fin_k,z9C h (zlW hr.1) (zlW hr.2)];simp [zdk]
 | mon a b ha hb _ _ _=>
  obtain ⟨g1,l1⟩:=hg a (.inl (by simp))
  obtain ⟨g2,l2⟩:=hg b (.inl (by simp))
  rw [zl2];simp only [List.map,zdk,List.getD_cons_zero,List.getD_cons_succ,show ¬ (1:Int)=0 by decide,if_false,if_true]
  rw [show ByteArray.mk #[(109:UInt8),(111:UInt8),(110:UInt8),(117:UInt8),(115:UInt8),(91:UInt8)]=bs [109,111,110,117,115,91] from rfl,show ByteArray.mk #[(44:UInt8),(32:UInt8)]=bs [44,32] from rfl,show ByteArray.mk #[(93:UInt8)]=bs [93] from rfl]
  simp only [cond_true,cond_false,Wy.fin_i,Wy.fin_bn,Wy.fin_k,show ((1:Int)==0)=false from rfl,show ((1:Int)==1)=true from rfl,show (decide ((0:Int)<=0)&&decide ((0:Int)<Int.ofNat [a,b].length))=true from rfl,show (decide ((0:Int)<=1)&&decide ((1:Int)<Int.ofNat [a,b].length))=true from rfl,show [a,b].getD (Int.toNat 0) default=a from rfl,show [a,b].getD (Int.toNat 1) default=b from rfl,g1,g2,zBX,zug,List.length_append,List.length_cons,List.length_nil]
  rw [okS _ _ (by omega),okS _ _ (by omega),okS _ _ (by omega),okS _ _ (by omega)]
  simp
 | del a ha _ _ _=>
  obtain ⟨g1,l1⟩:=hg a (.inl (by simp))
  rw [zl2];simp only [List.map,zdk,List.getD_cons_zero,show ¬ (2:Int)=0 by decide,show ¬ (2:Int)=1 by decide,if_false,if_true]
  rw [show ByteArray.mk #[(100:UInt8),(101:UInt8),(108:UInt8),(116:UInt8),(97:UInt8),(91:UInt8)]=bs [100,101,108,116,97,91] from rfl,show ByteArray.mk #[(93:UInt8)]=bs [93] from rfl]
  simp only [cond_true,cond_false,Wy.fin_i,Wy.fin_bn,Wy.fin_k,show ((2:Int)==0)=false from rfl,show ((2:Int)==1)=false from rfl,show ((2:Int)==2)=true from rfl,show (decide ((0:Int)<=0)&&decide ((0:Int)<Int.ofNat [a].length))=true from rfl,show [a].getD (Int.toNat 0) default=a from rfl,g1,zBX,zug,List.length_append,List.length_cons,List.length_nil]
  rw [okS _ _ (by omega),okS _ _ (by omega)]
  simp
 | abs a ha _ _=>
  obtain ⟨g1,l1⟩:=hg a (.inl (by simp))
  rw [zl2];simp only [List.map,zdk,List.getD_cons_zero,show ¬ (3:Int)=0 by decide,show ¬ (3:Int)=1 by decide,show ¬ (3:Int)=2 by decide,if_false,if_true]
  rw [show ByteArray.mk #[(97:UInt8),(98:UInt8),(115:UInt8),(101:UInt8),(110:UInt8),(116:UInt8),(91:UInt8)]=bs [97,98,115,101,110,116,91] from rfl,show ByteArray.mk #[(93:UInt8)]=bs [93] from rfl]
  simp only [cond_true,cond_false,Wy.fin_i,Wy.fin_bn,Wy.fin_k,show ((3:Int)==0)=false from rfl,show ((3:Int)==1)=false from rfl,show ((3:Int)==2)=false from rfl,show ((3:Int)==3)=true from rfl,show (decide ((0:Int)<=0)&&decide ((0:Int)<Int.ofNat [a].length))=true from rfl,show [a].getD (Int.toNat 0) default=a from rfl,g1,zBX,zug,List.length_append,List.length_cons,List.length_nil]
  rw [okS _ _ (by omega),okS _ _ (by omega)]
  simp
 | tst f l o b hl hv hs hf=>
  obtain ⟨⟨f0,f3,o5,o10⟩,hb,hit⟩:=zsk hf;have hwl:=zje W.2.1.1;have hwb:rng b.Int:=zlW W.2.2.1.2.1
  have:=zcz (W:=zmw gT) (z:=default) l.length (λi=>((),(),l,(l.length:Int),(i:Int),())) (λi=>((⟨4,⟨0,0⟩,[],f,l,o,b⟩:At),(l.take i).map λw=>bs (txI w),())) (λ_=>true) default ((⟨4,⟨0,0⟩,[],f,l,o,b⟩:At),l.map λw=>bs (txI w))
   (λi hi' H K D=>by
    show (zfZ gT l l.length i (⟨4,⟨0,0⟩,[],f,l,o,b⟩:At) ((l.take i).map λw=>bs (txI w))).ev H K D=_
    unfold zfZ;have hm:=zm hi';obtain ⟨g1,l1⟩:=hg _ (.inr ⟨_,hm,rfl⟩);have l2:=zOD (hit _ hm).1;rw [show ByteArray.mk #[(58:UInt8),(32:UInt8)]=bs [58,32] from rfl]
    simp only [Wy.ev_i,Wy.ev_k,Wy.ev_h,Wy.ev_bn,Wy.ev_d,tT,hi',z3H (hit _ hm).1 (zlW (hwl _ hm).1.2.1),g1,zBX,zug,qg,qf,List.length_nil];rw [okS _ _ (by omega),okS _ _ (by omega),zy (by simp only at hi; omega),zgJ hi',List.map_append]
    have hb:decide ((((l.take i).map λw=>bs (txI w)).length+1)*16<=zI)=true:=by simp only at hi; simp only [qe,List.length_map,List.length_take]; omega
    generalize ((l.take i).map λw=>bs (txI w))=out at hb ⊢
    have hb':decide ((out.length+(0+1))*16<=zI)=true:=hb;simp only [hb,hb',cond_true,List.map_cons,List.map_nil,txI,List.append_assoc])
   (λH K D=>by
    show (zfZ gT l l.length l.length (⟨4,⟨0,0⟩,[],f,l,o,b⟩:At) ((l.take l.length).map λw=>bs (txI w))).ev H K D=_
    unfold zfZ;simp only [Wy.ev_i,Wy.ev_k,tT,Nat.lt_irrefl,List.take_length]) (l.length+(Int.ofNat l.length).toNat +Int.toNat (0:Int)+([]:yA).length+l.length+(0:Nat)+(1:Nat)) (by omega)
  rw [show zer (λ_=>true) l.length 0=true from zdx.2 λ_ _ _=>rfl] at this
  have e:zuM gT (l.length+(Int.ofNat l.length).toNat +Int.toNat (0:Int)+([]:yA).length+l.length+(0:Nat)+(1:Nat)) l (Int.ofNat l.length) (0:Int) (⟨4,⟨0,0⟩,[],f,l,o,b⟩:At) []=(true,((⟨4,⟨0,0⟩,[],f,l,o,b⟩:At),(l.map txI).map bs)):=by rw [List.map_map]; exact this
  simp only at hi
  have hlen:(zeD (l.map txI) [59,32]).length<=5000000000000:=by
   refine Nat.le_trans (zSM (B:=4200001000) (l.map txI) [59,32] λy hy=> ?_) (by
    rw [List.length_map]; have:=Nat.mul_le_mul hi (Nat.le_refl 4200001000); omega)
   obtain ⟨w,hw,rfl⟩:=List.mem_map.1 hy;have h1:=(hg _ (.inr ⟨w,hw,rfl⟩)).2;have h2:=zOD (hit w hw).1;simp only [txI,qg,qf,List.length_nil]; omega
  have l3:=z6u f;have l4:=z6W o;have l5:=zOD hb;rw [zIA];simp only [zdk,show ¬ (4:Int)=0 by decide,show ¬ (4:Int)=1 by decide,show ¬ (4:Int)=2 by decide,show ¬ (4:Int)=3 by decide,if_false]
  rw [show ByteArray.mk #[(116:UInt8),(101:UInt8),(115:UInt8),(116:UInt8),(91:UInt8)]=bs [116,101,115,116,91] from rfl,show ByteArray.mk #[(123:UInt8)]=bs [123] from rfl,show ByteArray.mk #[(125:UInt8),(32:UInt8)]=bs [125,32] from rfl,show ByteArray.mk #[(59:UInt8),(32:UInt8)]=bs [59,32] from rfl,show ByteArray.mk #[(32:UInt8)]=bs [32] from rfl,show ByteArray.mk #[(93:UInt8)]=bs [93] from rfl]
  simp only [Wy.fin_i,show ((4:Int)==0)=false from rfl,show ((4:Int)==1)=false from rfl,show ((4:Int)==2)=false from rfl,show ((4:Int)==3)=false from rfl,cond_false]
  unfold strings_Join;obtain ⟨fb,ft⟩:=zbcw f0 f3;obtain ⟨ob,ot⟩:=zbcs o5 o10;rw [e,zU7];simp only [Wy.fin_i,Wy.fin_k,Wy.fin_bn,fb,ft,ob,ot,zXb _ _ (show (l.map txI).length<=140737488355328 by rw [List.length_map]; omega) (show (zeD (l.map txI) [59,32]).length<=140737488355328 by omega),z3H hb hwb,cond_true,zBX,zug,List.length_append,List.length_cons,List.length_nil]
  rw [okS _ _ (by omega),okS _ _ (by omega),okS _ _ (by omega),okS _ _ (by omega),okS _ _ (by omega),okS _ _ (by omega),okS _ _ (by omega),okS _ _ (by omega)]
  simp
end
theorem z3G:∀ n,
  (∀ m a,zbx m a=true->zgC a->3*m<=n->zor n a=(true,bs (txN a)))/\
  (∀ m x,zd8 (zbx m) x=true->zgz x->x.Items.length<=1024->3*m+1<=n->zlp n x=(true,bs (txA x)))/\
  (∀ m (l:yC),l.length<=1000->(∀ f∈l,zd8 (zbx m) f.At=true/\zgz f.At/\f.At.Items.length<=1024/\rng f.Exp)->3*m+2<=n->zgp n l=(true,bs (txL l)))
 | 0=>by
  refine ⟨?_, ?_, ?_⟩
  ·intro m a h _ hm; have:m=0:=by omega
   subst this; cases h
  all_goals (intros; omega)
 | n+1=>by
  obtain ⟨h1,h2,h3⟩:=z3G n;refine ⟨?_, ?_, ?_⟩
  ·intro m a h hw hm;cases m with
   | zero=>cases h
   | succ m=>
    have hl:=zvy (zEC h);have hlen:=(zVj (m+1)).1 a h;rw [zQs];refine zbdF _ a (by omega) (by omega) λt ht=> ?_
    obtain ⟨⟨c1,c2⟩,hok⟩:=zuO h ht;obtain ⟨q1,q2⟩:=hl.2.2.2 t ht;have hwt:=znO (zvr (zsd hw t ht)).2.1;refine ⟨h3 m t.Fs (by omega) (λf hf=> ?_) (by omega), ?_,by constructor <;>omega⟩
    ·obtain ⟨⟨e1,_⟩,hv⟩:=zo3 hok hf;exact ⟨hv,(zqN (hwt f hf)).1,(q2 f hf).2,by have:=(q2 f hf).1; constructor <;>omega⟩
    ·refine Nat.le_trans (z4P λf hf=>(zVj m).2 _ (zo3 hok hf).2) ?_
     have hs:t.Fs.length+zbH t.Fs<=zM a:=by
      clear hok q1 q2 hwt hw h hlen hl;induction a with
      | nil=>cases ht
      | cons b r ih=>
       rw [zfL];rcases qd.1 ht with rfl | ht
       ·omega
       ·have:=ih ht; omega
     omega
  ·intro m x h hw hi hm;rw [zGt];have W:=zsb hw;refine zbcz _ x h hw hi λa ha=> ?_
   have hv:zbx m a=true/\zgC a:=by
    rcases ha with ha | ⟨w,hw',rfl⟩
    ·refine ⟨?_,(zju W.1.1 a ha).1⟩;cases zdv.1 h with
     | var r h=>cases ha
     | mon b c hb hc _ _ _=>
      simp only [qd,List.not_mem_nil,or_false] at ha;rcases ha with rfl | rfl
      ·exact hb
      ·exact hc
     | del b hb _ _ _=>rw [qh] at ha; subst ha; exact hb
     | abs b hb _ _=>rw [qh] at ha; subst ha; exact hb
     | tst f l o b hl hi hs hf=>cases ha
    ·refine ⟨?_,(zje W.2.1.1 w hw').2.1⟩;cases zdv.1 h with
     | tst f l o b hl hi2 hs hf=>exact (hi2 w hw').1
     | _=>cases hw'
   refine ⟨h1 m a hv.1 hv.2 (by omega), ?_⟩
   have q1:=(zVj m).1 a hv.1;have q2:=(zeU hv.1).2.1;omega
  ·intro m l hl h hm;rw [zCM];refine zbcy _ l hl λf hf=> ?_
   obtain ⟨q1,q2,q3,q4⟩:=h f hf;refine ⟨h2 m f.At q1 q2 q3 (by omega), ?_,q4⟩
   have q5:=(zVj m).2 f.At q1;have q6:=zWi q1 q3;omega
def hd (S:List UInt8) (u:List UInt8):Prop:=∀ c,u.head? =some c->c∈S
theorem zpV {S:List UInt8} {c:UInt8} {u:List UInt8} (h:c∈S):hd S (c::u):=λd hd=>by
 simp only [List.head?_cons,qa] at hd; subst hd; exact h
theorem hd.mono {S T:List UInt8} {u:List UInt8} (h:hd S u) (hs:∀ c∈S,c∈T):hd T u:=λc hc=>hs c (h c hc)
theorem hd.noDig {S:List UInt8} {u:List UInt8} (h:hd S u) (hs:∀ c∈S,zrY c=false):noDig u:=λc hc=>hs c (h c hc)
theorem hd.ne {S:List UInt8} {u:List UInt8} (h:hd S u) {c:UInt8} (hs:c∉S):u.head? ≠some c:=λe=>hs (h c e)
theorem hd.cons_ne {S:List UInt8} {u:List UInt8} {c:UInt8} (h:hd S (c::u)) (hs:c∉S):False:=hs (h c rfl)
theorem zLr {α:Type} (tx:α->List UInt8) (S0:List UInt8) (s0:UInt8) (sr:List UInt8) (P:α->Prop) (hS:s0∉S0) (hR:∀ x y,P x->P y->∀ u v,hd (s0::S0) u->hd (s0::S0) v->tx x++u=tx y++v->x=y/\u=v):
  ∀ l l':List α,l≠[]->l'≠[]->(∀ x∈l,P x)->(∀ x∈l',P x)->∀ u v,hd S0 u->hd S0 v->zeD (l.map tx) (s0::sr)++u=zeD (l'.map tx) (s0::sr)++v->l=l'/\u=v
 | [],_,h,_,_,_,_,_,_,_,_=>absurd rfl h
 | _::_,[],_,h,_,_,_,_,_,_,_=>absurd rfl h
 | [x],[y],_,_,hx,hy,u,v,hu,hv,h=>by
  have mono:∀ c∈S0,c∈s0::S0:=λc hc=>List.mem_cons_of_mem _ hc
  obtain ⟨h1,h2⟩:=hR x y (hx x (by simp)) (hy y (by simp)) u v (hu.mono mono) (hv.mono mono) h
  exact ⟨by rw [h1],h2⟩
 | [x],y::y'::r',_,_,hx,hy,u,v,hu,hv,h=>by
  have mono:∀ c∈S0,c∈s0::S0:=λc hc=>List.mem_cons_of_mem _ hc
  simp only [List.map,zeD,List.append_assoc] at h;obtain ⟨h1,h2⟩:=hR x y (hx x (by simp)) (hy y (by simp)) u _ (hu.mono mono) (zpV (by simp)) h
  rw [h2] at hu;exact (hu.cons_ne hS).elim
 | x::x'::r,[y],_,_,hx,hy,u,v,hu,hv,h=>by
  have mono:∀ c∈S0,c∈s0::S0:=λc hc=>List.mem_cons_of_mem _ hc
  simp only [List.map,zeD,List.append_assoc] at h;obtain ⟨h1,h2⟩:=hR x y (hx x (by simp)) (hy y (by simp)) _ v (zpV (by simp)) (hv.mono mono) h
  rw [<- h2] at hv;exact (hv.cons_ne hS).elim
 | x::x'::r,y::y'::r',_,_,hx,hy,u,v,hu,hv,h=>by
  have h:zeD (((x::x'::r)).map tx) (s0::sr)++u=zeD (((y::y'::r')).map tx) (s0::sr)++v:=h;simp only [List.map,zeD,List.append_assoc] at h;obtain ⟨h1,h2⟩:=hR x y (hx x (by simp)) (hy y (by simp)) _ _ (zpV (by simp)) (zpV (by simp)) h
  have h3:=(List.append_right_inj sr).1 (List.cons.inj h2).2;obtain ⟨h4,h5⟩:=zLr tx S0 s0 sr P hS hR (x'::r) (y'::r') (by simp) (by simp) (λz hz=>hx z (List.mem_cons_of_mem _ hz)) (λz hz=>hy z (List.mem_cons_of_mem _ hz)) u v hu hv h3
  exact ⟨by rw [h1,h4],h5⟩
theorem z2Y {t:ByteArray} (h:t.size=0):t=ByteArray.mk #[]:=zEP (by
 have:t.data.toList.length=0:=by rw [Array.length_toList]; exact h
 rw [List.length_eq_zero_iff.1 this])
theorem z26 {x y:Value} (hx:zrx x=true) (hy:zrx y=true) (rx:rng x.Int) (ry:rng y.Int) {u v:List UInt8} (hu:hd [58,93] u) (hv:hd [58,93] v) (h:txV x++u=txV y++v):x=y/\u=v:=by
 have d1:∀ c∈([58,93]:List UInt8),zrY c=false:=by decide
 obtain ⟨cx,sx,ex,dx⟩:=z0R rx.1 rx.2;obtain ⟨cy,sy,ey,dy⟩:=z0R ry.1 ry.2
 have nd:∀ c:UInt8,c=45\/zrY c=true->c≠39/\c≠84/\c≠70:=λc hc=>by
  refine ⟨?_, ?_, ?_⟩ <;>(intro e; subst e; revert hc; decide)
 obtain ⟨kx,ix,tx⟩:=x;obtain ⟨ky,iy,ty⟩:=y;simp only [zrx,Bool.or_eq_true,qc,beq_iff_eq,qe] at hx hy;simp only at rx ry ex ey;rcases hx with (⟨rfl,hx⟩ | ⟨⟨rfl,rfl⟩,hx⟩) | ⟨⟨rfl,hx⟩,hx2⟩
 ·have:=z2Y hx; subst this;rcases hy with (⟨rfl,hy⟩ | ⟨⟨rfl,rfl⟩,hy⟩) | ⟨⟨rfl,hy⟩,hy2⟩
  ·have:=z2Y hy; subst this;simp only [txV,if_true] at h;obtain ⟨h1,h2⟩:=zuS rx ry (hu.noDig d1) (hv.noDig d1) h;exact ⟨by rw [h1],h2⟩
  ·simp only [txV,if_true,show ¬ (1:Int)=0 by decide,if_false,ex,List.cons_append,qj] at h
   exact absurd h.1 (nd cx dx).1
  ·rcases hy2 with rfl | rfl
   ·simp only [txV,if_true,show ¬ (2:Int)=0 by decide,show ¬ (2:Int)=1 by decide,show ¬ (0:Int)=1 by decide,if_false,ex,List.cons_append,qj] at h
    exact absurd h.1 (nd cx dx).2.2
   ·simp only [txV,if_true,show ¬ (2:Int)=0 by decide,show ¬ (2:Int)=1 by decide,if_false,ex,List.cons_append,qj] at h
    exact absurd h.1 (nd cx dx).2.1
 ·rcases hy with (⟨rfl,hy⟩ | ⟨⟨rfl,rfl⟩,hy⟩) | ⟨⟨rfl,hy⟩,hy2⟩
  ·simp only [txV,if_true,show ¬ (1:Int)=0 by decide,if_false,ey,List.cons_append,qj] at h
   exact absurd h.1.symm (nd cy dy).1
  ·simp only [txV,if_true,show ¬ (1:Int)=0 by decide,if_false,List.cons_append,qj,true_and,List.append_assoc,List.nil_append] at h
   obtain ⟨h1,h2⟩:=zW2 _ _ u v (hu.ne (by decide)) (hv.ne (by decide)) h
   exact ⟨by rw [zEP h1],h2⟩
  ·rcases hy2 with rfl | rfl <;>simp [txV] at h
 ·have:=z2Y hx; subst this;rcases hy with (⟨rfl,hy⟩ | ⟨⟨rfl,rfl⟩,hy⟩) | ⟨⟨rfl,hy⟩,hy2⟩
  ·rcases hx2 with rfl | rfl
   ·simp only [txV,if_true,show ¬ (2:Int)=0 by decide,show ¬ (2:Int)=1 by decide,show ¬ (0:Int)=1 by decide,if_false,ey,List.cons_append,qj] at h
    exact absurd h.1.symm (nd cy dy).2.2
   ·simp only [txV,if_true,show ¬ (2:Int)=0 by decide,show ¬ (2:Int)=1 by decide,if_false,ey,List.cons_append,qj] at h
    exact absurd h.1.symm (nd cy dy).2.1
  ·rcases hx2 with rfl | rfl <;>simp [txV] at h
  ·have:=z2Y hy; subst this;rcases hx2 with rfl | rfl <;>rcases hy2 with rfl | rfl <;>simp [txV] at h
   ·exact ⟨rfl,h⟩
   ·exact ⟨rfl,h⟩
theorem z94 {f g:Int} (hf:0<=f/\f<=3) (hg:0<=g/\g<=3) {u v:List UInt8} (h:fnT f++123::u=fnT g++123::v):f=g/\u=v:=by
 have c1:f=0\/f=1\/f=2\/f=3:=by omega
 have c2:g=0\/g=1\/g=2\/g=3:=by omega
 rcases c1 with rfl | rfl | rfl | rfl <;>rcases c2 with rfl | rfl | rfl | rfl <;>simp [fnT] at h <;>exact ⟨rfl,h⟩
theorem zbaG {f g:Int} (hf:5<=f/\f<=10) (hg:5<=g/\g<=10) {u v:List UInt8} (h:opT f++32::u=opT g++32::v):f=g/\u=v:=by
 have c1:f=5\/f=6\/f=7\/f=8\/f=9\/f=10:=by omega
 have c2:g=5\/g=6\/g=7\/g=8\/g=9\/g=10:=by omega
 rcases c1 with rfl | rfl | rfl | rfl | rfl | rfl <;>rcases c2 with rfl | rfl | rfl | rfl | rfl | rfl <;>simp [opT] at h <;>exact ⟨rfl,h⟩
def SN:List UInt8:=[93,44,59,125]
def ST:List UInt8:=32::SN
def SF:List UInt8:=42::ST
def SA:List UInt8:=94::SF
theorem zYp:∀ c∈SA,zrY c=false:=by decide
theorem zbeb:∀ c∈ST,c∈SA:=by decide
theorem zYO:∀ c∈SF,c∈SA:=by decide
def RdN (V:yB->Bool):Prop:=∀ a b,V a=true->V b=true->zgC a->zgC b->∀ u v,hd SN u->hd SN v->txN a++u=txN b++v->a=b/\u=v
def RdA (V:yB->Bool):Prop:=∀ x y,zd8 V x=true->zd8 V y=true->zgz x->zgz y->∀ u v,hd SA u->hd SA v->txA x++u=txA y++v->x=y/\u=v
theorem z9Z {V:yB->Bool} {x:At} (h:zd8 V x=true):∃ c r,txA x=c::r/\zrY c=false:=by
 cases zdv.1 h with
 | var r h=>rw [txA]; exact ⟨116,_,rfl,rfl⟩
 | mon a b _ _ _ _ _=>rw [txA]; exact ⟨109,_,rfl,rfl⟩
 | del a _ _ _ _=>rw [txA]; exact ⟨100,_,rfl,rfl⟩
 | abs a _ _ _=>rw [txA]; exact ⟨97,_,rfl,rfl⟩
 | tst f l o b _ _ _ _=>rw [txA]; exact ⟨116,_,rfl,rfl⟩
theorem z8A {V:yB->Bool} (hV:RdN V):RdA V:=by
 intro x y hx hy wx wy u v hu hv h;have Wx:=zsb wx;have Wy:=zsb wy;have k0:¬ (1:Int)=0:=by decide
 have c44:∀ z,hd SN (44::z):=λz=>zpV (by decide)
 have c93:∀ z,hd SN (93::z):=λz=>zpV (by decide)
 have tE:∀ (r:RowID),zyz r=true->rng r.Table->∀ w z,ziu r.Table++w≠101::z:=λr hr hg w z e=>by
  simp only [zyz,qc,qe] at hr;obtain ⟨d1,d2⟩:=z8R (show 0<=r.Table by omega) hg.2
  cases hl:ziu r.Table with
  | nil=>exact d2 hl
  | cons c s=>
   rw [hl] at e d1;simp only [List.cons_append,qj] at e;rw [List.all_cons,e.1] at d1;revert d1; simp [zrY]
 cases zdv.1 hx with
 | var r hr=>
  have rr:=Wx.2.2.2.2.1;simp only at rr;cases zdv.1 hy with
  | var r' hr'=>
   have rr':=Wy.2.2.2.2.1;simp only at rr';rw [txA,txA] at h;simp only [zdk,if_true,txR,List.cons_append,qj,true_and,List.append_assoc] at h;obtain ⟨h1,h2⟩:=zuS (zlW rr.1) (zlW rr'.1) (λc hc=>by simp only [List.head?_cons,qa] at hc; subst hc; rfl) (λc hc=>by simp only [List.head?_cons,qa] at hc; subst hc; rfl) h
   simp only [qj,true_and] at h2;obtain ⟨h3,h4⟩:=zuS (zlW rr.2) (zlW rr'.2) (hu.noDig zYp) (hv.noDig zYp) h2;obtain ⟨t,s⟩:=r; obtain ⟨t',s'⟩:=r';simp only at h1 h3;exact ⟨by rw [h1,h3],h4⟩
  | tst f l o b _ _ _ _=>
   rw [txA,txA] at h;simp only [zdk,if_true,txR,show ¬ (4:Int)=0 by decide,show ¬ (4:Int)=1 by decide,show ¬ (4:Int)=2 by decide,show ¬ (4:Int)=3 by decide,if_false,List.cons_append,qj,true_and,List.append_assoc] at h
   exact absurd h (tE r hr (zlW rr.1) _ _)
  | mon a b _ _ _ _ _=>rw [txA,txA] at h; simp [zdk,txR] at h
  | del a _ _ _ _=>rw [txA,txA] at h; simp [zdk,txR] at h
  | abs a _ _ _=>rw [txA,txA] at h; simp [zdk,txR] at h
 | mon a b ha hb _ _ _=>
  cases zdv.1 hy with
  | mon a' b' ha' hb' _ _ _=>
   rw [txA,txA,zl2,zl2] at h;simp only [zdk,if_true,k0,if_false,List.map,List.getD_cons_zero,List.getD_cons_succ,List.cons_append,qj,true_and,List.append_assoc,List.nil_append] at h;have wa:=λz hz=>(zju Wx.1.1 z hz).1
   have wb:=λz hz=>(zju Wy.1.1 z hz).1
   obtain ⟨h1,h2⟩:=hV a a' ha ha' (wa a (by simp)) (wb a' (by simp)) _ _ (c44 _) (c44 _) h
   simp only [qj,true_and] at h2;obtain ⟨h3,h4⟩:=hV b b' hb hb' (wa b (by simp)) (wb b' (by simp)) _ _ (c93 _) (c93 _) h2
   simp only [qj,true_and] at h4;exact ⟨by rw [h1,h3],h4⟩
  | var r h=>rw [txA,txA] at h; simp [zdk,txR] at h
  | del a _ _ _ _=>rw [txA,txA] at h; simp [zdk,txR] at h
  | abs a _ _ _=>rw [txA,txA] at h; simp [zdk,txR] at h
  | tst f l o b _ _ _ _=>rw [txA,txA] at h; simp [zdk,txR] at h
 | del a ha _ _ _=>
  cases zdv.1 hy with
  | del a' ha' _ _ _=>
   rw [txA,txA,zl2,zl2] at h;simp only [zdk,if_true,show ¬ (2:Int)=0 by decide,show ¬ (2:Int)=1 by decide,if_false,List.map,List.getD_cons_zero,List.cons_append,qj,true_and,List.append_assoc,List.nil_append] at h
   have wa:=λz hz=>(zju Wx.1.1 z hz).1
   have wb:=λz hz=>(zju Wy.1.1 z hz).1
   obtain ⟨h1,h2⟩:=hV a a' ha ha' (wa a (by simp)) (wb a' (by simp)) _ _ (c93 _) (c93 _) h
   simp only [qj,true_and] at h2;exact ⟨by rw [h1],h2⟩
  | var r h=>rw [txA,txA] at h; simp [zdk,txR] at h
  | mon a b _ _ _ _ _=>rw [txA,txA] at h; simp [zdk,txR] at h
  | abs a _ _ _=>rw [txA,txA] at h; simp [zdk,txR] at h
  | tst f l o b _ _ _ _=>rw [txA,txA] at h; simp [zdk,txR] at h
 | abs a ha _ _=>
  cases zdv.1 hy with
  | abs a' ha' _ _=>
   rw [txA,txA,zl2,zl2] at h;simp only [zdk,if_true,show ¬ (3:Int)=0 by decide,show ¬ (3:Int)=1 by decide,show ¬ (3:Int)=2 by decide,if_false,List.map,List.getD_cons_zero,List.cons_append,qj,true_and,List.append_assoc,List.nil_append] at h
   have wa:=λz hz=>(zju Wx.1.1 z hz).1
   have wb:=λz hz=>(zju Wy.1.1 z hz).1
   obtain ⟨h1,h2⟩:=hV a a' ha ha' (wa a (by simp)) (wb a' (by simp)) _ _ (c93 _) (c93 _) h
   simp only [qj,true_and] at h2;exact ⟨by rw [h1],h2⟩
  | var r h=>rw [txA,txA] at h; simp [zdk,txR] at h
  | mon a b _ _ _ _ _=>rw [txA,txA] at h; simp [zdk,txR] at h
  | del a _ _ _ _=>rw [txA,txA] at h; simp [zdk,txR] at h
  | tst f l o b _ _ _ _=>rw [txA,txA] at h; simp [zdk,txR] at h
 | tst f l o b hl hi hs hf=>
  cases zdv.1 hy with
  | tst f' l' o' b' hl' hi' hs' hf'=>
   obtain ⟨⟨f0,f3,o5,o10⟩,hb,hit⟩:=zsk hf;obtain ⟨⟨f0',f3',o5',o10'⟩,hb',hit'⟩:=zsk hf';have wl:=zje Wx.2.1.1;have wl':=zje Wy.2.1.1;rw [txA,txA,zIA,zIA] at h;simp only [zdk,show ¬ (4:Int)=0 by decide,show ¬ (4:Int)=1 by decide,show ¬ (4:Int)=2 by decide,show ¬ (4:Int)=3 by decide,if_false,List.cons_append,qj,true_and,List.append_assoc,List.nil_append] at h
   obtain ⟨h1,h2⟩:=z94 ⟨f0,f3⟩ ⟨f0',f3'⟩ h
   obtain ⟨h3,h4⟩:=zLr txI [125] 59 [32] (λw=>(V w.Ann=true/\zgC w.Ann)/\zrx w.Value=true/\rng w.Value.Int) (by decide) (λx y px py u v hu hv e=>by
    simp only [txI,List.append_assoc,List.cons_append,List.nil_append] at e;obtain ⟨e1,e2⟩:=z26 px.2.1 py.2.1 px.2.2 py.2.2 (zpV (by decide)) (zpV (by decide)) e
    simp only [qj,true_and] at e2;obtain ⟨e3,e4⟩:=hV _ _ px.1.1 py.1.1 px.1.2 py.1.2 u v (hu.mono (by decide)) (hv.mono (by decide)) e2
    obtain ⟨vx,ax⟩:=x; obtain ⟨vy,ay⟩:=y;simp only at e1 e3;exact ⟨by rw [e1,e3],e4⟩) l l' hl hl' (λw hw=>⟨⟨(hi w hw).1,(wl w hw).2.1⟩,(hit w hw).1,zlW (wl w hw).1.2.1⟩) (λw hw=>⟨⟨(hi' w hw).1,(wl' w hw).2.1⟩,(hit' w hw).1,zlW (wl' w hw).1.2.1⟩) _ _ (zpV (by decide)) (zpV (by decide)) h2
   simp only [qj,true_and] at h4;obtain ⟨h5,h6⟩:=zbaG ⟨o5,o10⟩ ⟨o5',o10'⟩ h4;obtain ⟨h7,h8⟩:=z26 hb hb' (zlW Wx.2.2.1.2.1) (zlW Wy.2.2.1.2.1) (zpV (by decide)) (zpV (by decide)) h6
   simp only [qj,true_and] at h8;exact ⟨by rw [h1,h3,h5,h7],h8⟩
  | var r hr=>
   have rr:=Wy.2.2.2.2.1;simp only at rr;rw [txA,txA] at h;simp only [zdk,if_true,txR,show ¬ (4:Int)=0 by decide,show ¬ (4:Int)=1 by decide,show ¬ (4:Int)=2 by decide,show ¬ (4:Int)=3 by decide,if_false,List.cons_append,qj,true_and,List.append_assoc] at h
   exact absurd h.symm (tE r hr (zlW rr.1) _ _)
  | mon a b _ _ _ _ _=>rw [txA,txA] at h; simp [zdk,txR] at h
  | del a _ _ _ _=>rw [txA,txA] at h; simp [zdk,txR] at h
  | abs a _ _ _=>rw [txA,txA] at h; simp [zdk,txR] at h
def gF (V:yB->Bool) (f:Fc):Prop:=zd8 V f.At=true/\zgz f.At/\rng f.Exp
theorem zbcU {V:yB->Bool} (hA:RdA V) {f g:Fc} (hf:gF V f) (hg:gF V g) {u v:List UInt8} (hu:hd SF u) (hv:hd SF v) (h:txF f++u=txF g++v):f=g/\u=v:=by
 obtain ⟨x,e⟩:=f; obtain ⟨y,e'⟩:=g;obtain ⟨a1,a2,a3⟩:=hf; obtain ⟨b1,b2,b3⟩:=hg;simp only at a1 a2 a3 b1 b2 b3;have c94:∀ z,hd SA (94::z):=λz=>zpV (by decide)
 have n94:(94:UInt8)∉SF:=by decide
 have dg:∀ c∈SF,zrY c=false:=λc hc=>zYp c (zYO c hc)
 unfold txF zLz at h;simp only at h;by_cases h1:e=1
 ·by_cases h2:e'=1
  ·rw [if_pos h1,if_pos h2] at h;obtain ⟨q1,q2⟩:=hA x y a1 b1 a2 b2 u v (hu.mono zYO) (hv.mono zYO) h;exact ⟨by rw [q1,h1,h2],q2⟩
  ·rw [if_pos h1,if_neg h2,List.append_assoc] at h;obtain ⟨q1,q2⟩:=hA x y a1 b1 a2 b2 u _ (hu.mono zYO) (c94 _) h;rw [q2] at hu;exact (hu.cons_ne n94).elim
 ·by_cases h2:e'=1
  ·rw [if_neg h1,if_pos h2,List.append_assoc] at h;obtain ⟨q1,q2⟩:=hA x y a1 b1 a2 b2 _ v (c94 _) (hv.mono zYO) h;rw [<- q2] at hv;exact (hv.cons_ne n94).elim
  ·rw [if_neg h1,if_neg h2,List.append_assoc,List.append_assoc] at h;obtain ⟨q1,q2⟩:=hA x y a1 b1 a2 b2 _ _ (c94 _) (c94 _) h;simp only [List.cons_append,qj,true_and] at q2;obtain ⟨q3,q4⟩:=zuS a3 b3 (hu.noDig dg) (hv.noDig dg) q2;exact ⟨by rw [q1,q3],q4⟩
theorem z0n {V:yB->Bool} (hA:RdA V) {l l':yC} (hl:l≠[]) (hl':l'≠[]) (h1:∀ f∈l,gF V f) (h2:∀ f∈l',gF V f) {u v:List UInt8} (hu:hd ST u) (hv:hd ST v) (h:txL l++u=txL l'++v):l=l'/\u=v:=by
 unfold txL at h;rw [zxQ,zxQ] at h;exact zLr txF ST 42 [] (gF V) (by decide) (λx y px py u v hu hv e=>zbcU hA px py hu hv e) l l' hl hl' h1 h2 u v hu hv h
theorem zDM {V:yB->Bool} {l:yC} (hl:l≠[]) (h:∀ f∈l,gF V f):∃ c r,txL l=c::r/\zrY c=false:=by
 cases l with
 | nil=>exact absurd rfl hl
 | cons f r=>
  obtain ⟨c,s,e,hc⟩:=z9Z (h f (by simp)).1
  have:∃ s',txF f=c::s':=by
   unfold txF zLz;split
   ·exact ⟨s,e⟩
   ·exact ⟨_,by rw [e]; rfl⟩
  obtain ⟨s',e'⟩:=this;unfold txL;rw [zxQ];cases r with
  | nil=>exact ⟨c,s',by simp only [List.map,zeD]; exact e',hc⟩
  | cons g r=>exact ⟨c,_,by simp only [List.map,zeD]; rw [e']; rfl,hc⟩
def gT (V:yB->Bool) (t:Term):Prop:=(1<=t.Cf/\t.Cf<=9223372036854775807)/\∀ f∈t.Fs,gF V f
theorem z0e {n:Int} (h:1<=n) (h2:n<=9223372036854775807):∃ c r,ziu n=c::r/\zrY c=true/\c≠48:=by
 have e:ziu n=Lib.decDigits n.toNat:=by rw [zXA (by omega) h2,Lib.itoa,if_neg (by omega)]
 obtain ⟨a1,a2,a3,a4⟩:=zUW n.toNat n.toNat (Nat.le_refl _);rw [e];cases hl:Lib.decDigits n.toNat with
 | nil=>exact absurd hl a3
 | cons c r=>
  rw [hl] at a1 a4;rw [List.all_cons,qc] at a1;exact ⟨c,r,rfl,a1.1,λe=>a4 (by omega) (by rw [e]; rfl)⟩
theorem z4t {l:yC}:zIr l=[]↔l=[]:=by rw [zxQ,List.map_eq_nil_iff]
theorem z4d (t:Term):txT t=if t.Fs=[] then ziu t.Cf else if t.Cf=1 then txL t.Fs else ziu t.Cf++42::txL t.Fs:=by
 unfold txT zTh;by_cases h:t.Fs=[]
 ·rw [if_pos (z4t.2 h),if_pos h]
 ·rw [if_neg (λe=>h (z4t.1 e)),if_neg h]; rfl
theorem zbcW {V:yB->Bool} (hA:RdA V) {s t:Term} (hs:gT V s) (ht:gT V t) {u v:List UInt8} (hu:hd ST u) (hv:hd ST v) (h:txT s++u=txT t++v):s=t/\u=v:=by
 obtain ⟨c,l⟩:=s; obtain ⟨c',l'⟩:=t;obtain ⟨⟨c1,c2⟩,h1⟩:=hs; obtain ⟨⟨c1',c2'⟩,h2⟩:=ht;simp only at c1 c2 h1 c1' c2' h2;have dg:∀ c∈ST,zrY c=false:=λc hc=>zYp c (zbeb c hc)
 have n42:(42:UInt8)∉ST:=by decide
 have d42:∀ z,noDig (42::z):=λz c hc=>by simp only [List.head?_cons,qa] at hc; subst hc; rfl
 have rc:rng c:=⟨by omega,c2⟩
 have rc':rng c':=⟨by omega,c2'⟩
 obtain ⟨d,r,e,hd,_⟩:=z0e c1 c2;obtain ⟨d',r',e',hd',_⟩:=z0e c1' c2';rw [z4d,z4d] at h;simp only at h;by_cases l0:l=[]
 ·rw [if_pos l0] at h;by_cases l0':l'=[]
  ·rw [if_pos l0'] at h;obtain ⟨q1,q2⟩:=zuS rc rc' (hu.noDig dg) (hv.noDig dg) h;exact ⟨by rw [q1,l0,l0'],q2⟩
  ·rw [if_neg l0'] at h;by_cases k':c'=1
   ·rw [if_pos k'] at h;obtain ⟨d2,r2,e2,hd2⟩:=zDM l0' h2;rw [e,e2] at h;simp only [List.cons_append,qj] at h;rw [h.1,hd2] at hd; cases hd
   ·rw [if_neg k',List.append_assoc] at h;obtain ⟨q1,q2⟩:=zuS rc rc' (hu.noDig dg) (d42 _) h;rw [q2] at hu;exact (hu.cons_ne n42).elim
 ·rw [if_neg l0] at h;by_cases k:c=1
  ·rw [if_pos k] at h;obtain ⟨d2,r2,e2,hd2⟩:=zDM l0 h1;by_cases l0':l'=[]
   ·rw [if_pos l0',e2,e'] at h;simp only [List.cons_append,qj] at h;rw [<- h.1,hd2] at hd'; cases hd'
   ·rw [if_neg l0'] at h;by_cases k':c'=1
    ·rw [if_pos k'] at h;obtain ⟨q1,q2⟩:=z0n hA l0 l0' h1 h2 hu hv h;exact ⟨by rw [q1,k,k'],q2⟩
    ·rw [if_neg k',e2,e'] at h;simp only [List.cons_append,qj] at h;rw [<- h.1,hd2] at hd'; cases hd'
  ·rw [if_neg k,List.append_assoc] at h;by_cases l0':l'=[]
   ·rw [if_pos l0'] at h;obtain ⟨q1,q2⟩:=zuS rc rc' (d42 _) (hv.noDig dg) h;rw [<- q2] at hv;exact (hv.cons_ne n42).elim
   ·rw [if_neg l0'] at h;by_cases k':c'=1
    ·rw [if_pos k'] at h;obtain ⟨d2,r2,e2,hd2⟩:=zDM l0' h2;rw [e,e2] at h;simp only [List.cons_append,qj] at h;rw [h.1,hd2] at hd; cases hd
    ·rw [if_neg k',List.append_assoc] at h;obtain ⟨q1,q2⟩:=zuS rc rc' (d42 _) (d42 _) h;simp only [List.cons_append,qj,true_and] at q2;obtain ⟨q3,q4⟩:=z0n hA l0 l0' h1 h2 hu hv q2;exact ⟨by rw [q1,q3],q4⟩
theorem zbaf {V:yB->Bool} {t:Term} (ht:gT V t):∃ c r,txT t=c::r/\c≠48:=by
 obtain ⟨⟨c1,c2⟩,h1⟩:=ht;obtain ⟨d,r,e,hd,h48⟩:=z0e c1 c2;rw [z4d];by_cases l0:t.Fs=[]
 ·rw [if_pos l0]; exact ⟨d,r,e,h48⟩
 ·rw [if_neg l0];split
  ·obtain ⟨d2,r2,e2,hd2⟩:=zDM l0 h1;exact ⟨d2,r2,e2,λe=>by rw [e] at hd2; revert hd2; decide⟩
  ·exact ⟨d,_,by rw [e]; rfl,h48⟩
theorem zbdn {V:yB->Bool} (hA:RdA V) {a b:yB} (ha:∀ t∈a,gT V t) (hb:∀ t∈b,gT V t) {u v:List UInt8} (hu:hd SN u) (hv:hd SN v) (h:txN a++u=txN b++v):a=b/\u=v:=by
 have en:∀ z:yB,z≠[]->txN z=zeD (z.map txT) [32,43,32]:=λz hz=>by
  unfold txN zO7; rw [zPa,if_neg (by simpa using hz)]
 have e0:txN []=[48]:=by unfold txN zO7; rw [zOX,if_pos rfl]
 have h48:∀ z:yB,z≠[]->(∀ t∈z,gT V t)->∃ c r,txN z=c::r/\c≠48:=λz hz hg=>by
  rw [en z hz];cases z with
  | nil=>exact absurd rfl hz
  | cons t r=>
   obtain ⟨c,s,e,hc⟩:=zbaf (hg t (by simp))
   cases r with
   | nil=>exact ⟨c,s,by simp only [List.map,zeD]; exact e,hc⟩
   | cons t' r=>exact ⟨c,_,by simp only [List.map,zeD]; rw [e]; rfl,hc⟩
 by_cases a0:a=[]
 ·by_cases b0:b=[]
  ·rw [a0,b0] at h;exact ⟨by rw [a0,b0],List.append_cancel_left h⟩
  ·obtain ⟨c,r,e,hc⟩:=h48 b b0 hb;rw [a0,e0,e] at h;simp only [List.cons_append,qj] at h;exact absurd h.1.symm hc
 ·by_cases b0:b=[]
  ·obtain ⟨c,r,e,hc⟩:=h48 a a0 ha;rw [b0,e0,e] at h;simp only [List.cons_append,qj] at h;exact absurd h.1 hc
  ·rw [en a a0,en b b0] at h;exact zLr txT SN 32 [43,32] (gT V) (by decide) (λx y px py u v hu hv e=>zbcW hA px py hu hv e) a b a0 b0 ha hb u v hu hv h
theorem z9G:∀ m,RdN (zbx m)/\RdA (zbx m):=by
 intro m;induction m with
 | zero=>
  have:RdN (zbx 0):=λa b ha=>by cases ha
  exact ⟨this,z8A this⟩
 | succ m ih=>
  have:RdN (zbx (m+1)):=λa b ha hb wa wb u v hu hv h=>by
   have key:∀ z,zbx (m+1) z=true->zgC z->∀ t∈z,gT (zbx m) t:=λz hz wz t ht=>by
    obtain ⟨⟨c1,c2⟩,hok⟩:=zuO hz ht;have hwt:=znO (zvr (zsd wz t ht)).2.1;exact ⟨⟨c1,by omega⟩,λf hf=>⟨(zo3 hok hf).2,(zqN (hwt f hf)).1,zlW (zqN (hwt f hf)).2⟩⟩
   exact zbdn ih.2 (key a ha wa) (key b hb wb) hu hv h
  exact ⟨this,z8A this⟩
theorem zbbq {m:Nat} {l l':yC} (h1:∀ f∈l,gF (zbx m) f) (h2:∀ f∈l',gF (zbx m) f) (h:txL l=txL l'):l=l':=by
 have e0:txL []=[]:=by unfold txL; rw [zIr]; rfl
 by_cases l0:l=[]
 ·by_cases l0':l'=[]
  ·rw [l0,l0']
  ·obtain ⟨c,r,e,_⟩:=zDM l0' h2;rw [l0,e0,e] at h; cases h
 ·by_cases l0':l'=[]
  ·obtain ⟨c,r,e,_⟩:=zDM l0 h1;rw [l0',e0,e] at h; cases h
  ·exact (z0n (z9G m).2 l0 l0' h1 h2 (u:=[]) (v:=[]) (λc hc=>by cases hc) (λc hc=>by cases hc) (by rw [h])).1
def zsT (a b:Int):Int:=if 1152921504606846976<a+b then 1152921504606846976 else a+b
def cT (x y:Term):Int:=zbn (zbr x.Fs) (zbr y.Fs)
theorem zOv {x y:Term} (h:cT x y=0):x.Fs=y.Fs:=zzV _ _ (zH1 _ _ h)
theorem zys {x y:Term} (h:x.Fs=y.Fs):cT x y=0:=by unfold cT; rw [h]; exact zSU _
def zg1 (t:Term):yB->yB
 | []=>[t]
 | x::r=>if cT x t<0 then x::zg1 t r else if cT x t=0 then ⟨zsT x.Cf t.Cf,t.Fs⟩::r else t::x::r
def zmt (t:Term):yB->yB
 | []=>[t]
 | x::r=>if x.Fs=t.Fs then ⟨zsT x.Cf t.Cf,x.Fs⟩::r else x::zmt t r
abbrev Srs (l:yB):Prop:=l.Pairwise λx y=>cT x y<0
abbrev Dst (l:yB):Prop:=l.Pairwise λx y=>x.Fs≠y.Fs
theorem Srs.dst {l:yB} (h:Srs l):Dst l:=h.imp λ{x y} hxy e=>by rw [zys e] at hxy; omega
def SM (l:yB) (t y:Term):Prop:=(y∈l/\y.Fs≠t.Fs)\/(y.Fs=t.Fs/\((∃ x∈l,x.Fs=t.Fs/\y.Cf=zsT x.Cf t.Cf)\/((∀ x∈l,x.Fs≠t.Fs)/\y.Cf=t.Cf)))
theorem zZO {x y:Term} (h1:x.Cf=y.Cf) (h2:x.Fs=y.Fs):x=y:=by cases x; cases y; simp_all
theorem zJ4 {x y z:Term} (h1:cT x y<0) (h2:cT y z<0):cT x z<0:=z2b h1 h2
theorem zAQ (x y:Term):cT y x= - cT x y:=zEw _ _
theorem zYf {x t y:Term} {r:yB} (hx:x.Fs≠t.Fs) (hr:∀ z∈r,x.Fs≠z.Fs):SM (x::r) t y↔y=x\/SM r t y:=by
 unfold SM;constructor
 ·rintro (⟨h1,h2⟩ | ⟨h1,⟨z,hz,h2,h3⟩ | ⟨h2,h3⟩⟩)
  ·rcases qd.1 h1 with rfl | h1
   ·exact .inl rfl
   ·exact .inr (.inl ⟨h1,h2⟩)
  ·rcases qd.1 hz with rfl | hz
   ·exact absurd h2 hx
   ·exact .inr (.inr ⟨h1,.inl ⟨z,hz,h2,h3⟩⟩)
  ·exact .inr (.inr ⟨h1,.inr ⟨λz hz=>h2 z (by simp [hz]),h3⟩⟩)
 ·rintro (rfl | ⟨h1,h2⟩ | ⟨h1,⟨z,hz,h2,h3⟩ | ⟨h2,h3⟩⟩)
  ·exact .inl ⟨by simp,hx⟩
  ·exact .inl ⟨by simp [h1],h2⟩
  ·exact .inr ⟨h1,.inl ⟨z,by simp [hz],h2,h3⟩⟩
  ·exact .inr ⟨h1,.inr ⟨λz hz=>by
    rcases qd.1 hz with rfl | hz
    ·exact hx
    ·exact h2 z hz,h3⟩⟩
theorem zZF {t y:Term} {l:yB} (h:∀ z∈l,z.Fs≠t.Fs):SM l t y↔y=t\/y∈l:=by
 unfold SM;constructor
 ·rintro (⟨h1,h2⟩ | ⟨h1,⟨z,hz,h2,h3⟩ | ⟨h2,h3⟩⟩)
  ·exact .inr h1
  ·exact absurd h2 (h z hz)
  ·exact .inl (zZO h3 h1)
 ·rintro (rfl | h1)
  ·exact .inr ⟨rfl,.inr ⟨h,rfl⟩⟩
  ·exact .inl ⟨h1,h y h1⟩
theorem z82 {x t y:Term} {r:yB} (hx:x.Fs=t.Fs) (hr:∀ z∈r,z.Fs≠t.Fs):SM (x::r) t y↔y=⟨zsT x.Cf t.Cf,t.Fs⟩\/y∈r:=by
 unfold SM;constructor
 ·rintro (⟨h1,h2⟩ | ⟨h1,⟨z,hz,h2,h3⟩ | ⟨h2,h3⟩⟩)
  ·rcases qd.1 h1 with rfl | h1
   ·exact absurd hx h2
   ·exact .inr h1
  ·rcases qd.1 hz with rfl | hz
   ·exact .inl (zZO h3 h1)
   ·exact absurd h2 (hr z hz)
  ·exact absurd hx (h2 x (by simp))
 ·rintro (rfl | h1)
  ·exact .inr ⟨rfl,.inl ⟨x,by simp,hx,rfl⟩⟩
  ·exact .inl ⟨by simp [h1],hr y h1⟩
theorem zyy {t y:Term}:∀ {l:yB},Srs l->(y∈zg1 t l↔SM l t y)
 | [],_=>by rw [zZF (by simp)]; simp [zg1]
 | x::r,h=>by
  have hc:=qi.1 h;have hd:=qi.1 h.dst;unfold zg1;by_cases h1:cT x t<0
  ·rw [if_pos h1,qd,zYf (λe=>by rw [zys e] at h1; omega) hd.1,zyy hc.2]
  ·rw [if_neg h1];by_cases h2:cT x t=0
   ·rw [if_pos h2,List.mem_cons,z82 (zOv h2) λz hz e=>by
     have:=hc.1 z hz; rw [zys ((zOv h2).trans e.symm)] at this; omega]
   ·rw [if_neg h2,zZF λz hz e=>by
     have a:=zAQ x t;rcases qd.1 hz with rfl | hz
     ·exact h2 (zys e)
     ·have b:=zJ4 (show cT t x<0 by omega) (hc.1 z hz)
      rw [zys e.symm] at b; omega]
    rw [qd]
theorem z0i {t y:Term}:∀ {l:yB},Dst l->(y∈zmt t l↔SM l t y)
 | [],_=>by rw [zZF (by simp)]; simp [zmt]
 | x::r,h=>by
  have hd:=qi.1 h;unfold zmt;by_cases h2:x.Fs=t.Fs
  ·rw [if_pos h2,qd,z82 h2 λz hz e=>hd.1 z hz (h2.trans e.symm),h2]
  ·rw [if_neg h2,qd,zYf h2 hd.1,z0i hd.2]
theorem zyF {t:Term}:∀ {l:yB},Srs l->Srs (zg1 t l)
 | [],_=>by simp [zg1]
 | x::r,h=>by
  have hc:=qi.1 h;unfold zg1;by_cases h1:cT x t<0
  ·rw [if_pos h1];refine qi.2 ⟨λz hz=> ?_,zyF hc.2⟩
   rcases (zyy hc.2).1 hz with ⟨h2,_⟩ | ⟨h2,_⟩
   ·exact hc.1 z h2
   ·have:cT x z=cT x t:=by unfold cT; rw [h2]
    rw [this]; exact h1
  ·rw [if_neg h1];by_cases h2:cT x t=0
   ·rw [if_pos h2];refine qi.2 ⟨λz hz=> ?_,hc.2⟩
    have:=hc.1 z hz;unfold cT at this ⊢;rw [<- zOv h2]; exact this
   ·rw [if_neg h2];have a:=zAQ x t;refine qi.2 ⟨λz hz=> ?_,h⟩
    rcases qd.1 hz with rfl | hz
    ·omega
    ·exact zJ4 (show cT t x<0 by omega) (hc.1 z hz)
theorem zZV {t:Term}:∀ {l:yB},Dst l->Dst (zmt t l)
 | [],_=>by simp [zmt]
 | x::r,h=>by
  have hc:=qi.1 h;unfold zmt;by_cases h2:x.Fs=t.Fs
  ·rw [if_pos h2];exact qi.2 ⟨λz hz=>hc.1 z hz,hc.2⟩
  ·rw [if_neg h2];refine qi.2 ⟨λz hz=> ?_,zZV hc.2⟩
   rcases (z0i hc.2).1 hz with ⟨h3,_⟩ | ⟨h3,_⟩
   ·exact hc.1 z h3
   ·rw [h3]; exact h2
theorem Dst.nodup {l:yB} (h:Dst l):l.Nodup:=h.imp λ{x y} hxy e=>hxy (by rw [e])
theorem zbca {l l':yB} (h:l.Perm l') (t y:Term):SM l t y↔SM l' t y:=by
 unfold SM;simp only [h.mem_iff]
theorem z8H {l l':yB} (t:Term) (h:l.Perm l') (hs:Srs l) (hd:Dst l'):(zg1 t l).Perm (zmt t l'):=
 (List.perm_ext_iff_of_nodup (zyF hs).dst.nodup (zZV hd).nodup).2 λy=>by rw [zyy hs,z0i hd,zbca h]
def zcp (a b:yB):yB:=b.foldl (λa t=>zg1 t a) a
def zLj (ts:yB):yB:=ts.foldl (λa t=>zmt t a) []
theorem zNM:∀ (b a:yB),Srs a->Srs (zcp a b)
 | [],_,h=>h
 | t::r,a,h=>zNM r (zg1 t a) (zyF h)
theorem z1d:∀ (ts l l':yB),l.Perm l'->Srs l->Dst l'->(zcp l ts).Perm (ts.foldl (λa t=>zmt t a) l')/\Dst (ts.foldl (λa t=>zmt t a) l')
 | [],l,l',h,_,hd=>⟨h,hd⟩
 | t::r,l,l',h,hs,hd=>z1d r (zg1 t l) (zmt t l') (z8H t h hs hd) (zyF hs) (zZV hd)
theorem z3g {t:Term}:∀ {l:yB},(∀ x∈l,cT x t<0)->zg1 t l=l++[t]
 | [],_=>rfl
 | x::r,h=>by
  unfold zg1;rw [if_pos (h x (by simp)),z3g λy hy=>h y (by simp [hy])]; rfl
theorem z0o:∀ (r l:yB),Srs (l++r)->zcp l r=l++r
 | [],l,_=>by simp [zcp]
 | t::r,l,h=>by
  have e:zcp l (t::r)=zcp (zg1 t l) r:=rfl;have hp:=List.pairwise_append.1 h;rw [e,z3g λx hx=>hp.2.2 x hx t (by simp),z0o r (l++[t]) (by simpa using h)]
  simp
theorem sum_nil {a:yB} (h:Srs a):zcp [] a=a:=z0o a [] h
theorem zbb7 (a b:yB) (h:Srs a):zcp [] (a++b)=zcp a b:=by
 show (a++b).foldl (λa t=>zg1 t a) []=_
 rw [List.foldl_append];show zcp (zcp [] a) b=_;rw [sum_nil h]
theorem zH7 {y:Term}:∀ (b a:yB),Srs a->y∈zcp a b->∃ x,(x∈a\/x∈b)/\y.Fs=x.Fs
 | [],a,_,h=>⟨y,.inl h,rfl⟩
 | t::r,a,hs,h=>by
  obtain ⟨x,hx,e⟩:=zH7 r (zg1 t a) (zyF hs) h;rcases hx with hx | hx
  ·rcases (zyy hs).1 hx with ⟨h1,_⟩ | ⟨h1,_⟩
   ·exact ⟨x,.inl h1,e⟩
   ·exact ⟨t,.inr (by simp),e.trans h1⟩
  ·exact ⟨x,.inr (by simp [hx]),e⟩
theorem z1w {a b:Int} (ha:1<=a) (hb:1<=b):1<=zsT a b/\zsT a b<=1152921504606846976:=by
 unfold zsT;split
 ·omega
 ·omega
def cOK (t:Term):Prop:=1<=t.Cf/\t.Cf<=1152921504606846976
theorem z2O {t:Term} (ht:cOK t):∀ {l:yB},(∀ x∈l,cOK x)->∀ x∈zg1 t l,cOK x
 | [],_,x,hx=>by simp only [zg1,qh] at hx; subst hx; exact ht
 | y::r,h,x,hx=>by
  unfold zg1 at hx;split at hx
  ·rcases qd.1 hx with rfl | hx
   ·exact h _ (by simp)
   ·exact z2O ht (λz hz=>h z (by simp [hz])) x hx
  ·split at hx
   ·rcases qd.1 hx with rfl | hx
    ·exact z1w (h y (by simp)).1 ht.1
    ·exact h x (by simp [hx])
   ·rcases qd.1 hx with rfl | hx
    ·exact ht
    ·exact h x hx
theorem z67:∀ (b:yB) {a:yB},(∀ x∈a,cOK x)->(∀ x∈b,cOK x)->∀ x∈zcp a b,cOK x
 | [],a,ha,_=>ha
 | t::r,a,ha,hb=>z67 r (z2O (hb t (by simp)) ha) λx hx=>hb x (by simp [hx])
theorem zU3 {t:Term}:∀ (l:yB),(zg1 t l).length<=l.length+1
 | []=>by simp [zg1]
 | x::r=>by
  have:=zU3 (t:=t) r;unfold zg1;split
  ·simp only [qf]; omega
  ·split <;>simp
theorem zH4:∀ (b a:yB),(zcp a b).length<=a.length+b.length
 | [],a=>by simp [zcp]
 | t::r,a=>by
  have h1:=zH4 r (zg1 t a);have h2:=zU3 (t:=t) a;show (zcp (zg1 t a) r).length<=_;simp only [qf]; omega
def cF (x y:Fc):Int:=z8 (zdZ x.At) (zdZ y.At)
theorem z6U {x y:Fc} (h:cF x y=0):x.At=y.At:=zYt _ _ (zr1 _ _ h)
theorem zbbn (x y:Fc):cF y x= - cF x y:=zfV _ _
theorem z2G {a b c:TT} (h1:z8 a b<0) (h2:z8 b c<0):z8 a c<0:=by
 have h:=zsp a b c (by omega) (by omega)
 by_cases e:z8 a c=0
 ·have e':=zr1 a c e;subst e';have:=zfV a b;omega
 ·omega
theorem zDg {x y z:Fc} (h1:cF x y<0) (h2:cF y z<0):cF x z<0:=z2G h1 h2
abbrev Srf (l:yC):Prop:=l.Pairwise λx y=>cF x y<0
def zFH (f:Fc):yC->yC
 | []=>[f]
 | x::r=>if cF x f<0 then x::zFH f r else if cF x f=0 then (if f.At.Kind<3 then ⟨f.At,x.Exp+f.Exp⟩ else f)::r else f::x::r
def zbz:yC->yC->yC
 | [],b=>b
 | x::a,[]=>x::a
 | x::a,y::b=>if cF x y<0 then x::zbz a (y::b) else if 0<cF x y then y::zbz (x::a) b else (if x.At.Kind=3\/x.At.Kind=4 then x else ⟨x.At,x.Exp+y.Exp⟩)::zbz a b
termination_by a b=>a.length+b.length
theorem zFs (a:yC):zbz a []=a:=by cases a <;>rw [zbz]
theorem zJ5 {m:Fc} {L b:yC} (h:∀ z∈b,cF m z<0):zbz (m::L) b=m::zbz L b:=by
 cases b with
 | nil=>rw [zFs,zFs]
 | cons z b=>rw [zbz,if_pos (h z (by simp))]
def eOK (f:Fc):Prop:=(0<=f.At.Kind/\f.At.Kind<=4)/\(f.At.Kind=3\/f.At.Kind=4->f.Exp=1)
theorem z3e {y:Fc} {b:yC} (hb:∀ z∈b,cF y z<0) (hy:eOK y):∀ {a:yC},(∀ x∈a,eOK x)->zbz (zFH y a) b=zbz a (y::b)
 | [],_=>by
  rw [zFH,zJ5 hb,zbz,zbz]
 | x::a,ha=>by
  unfold zFH;by_cases h1:cF x y<0
  ·rw [if_pos h1,zJ5 λz hz=>zDg h1 (hb z hz),z3e hb hy λz hz=>ha z (by simp [hz]),zJ5 (m:=x) (b:=y::b) λz hz=>by
    rcases qd.1 hz with rfl | hz
    ·exact h1
    ·exact zDg h1 (hb z hz)]
  ·rw [if_neg h1];by_cases h2:cF x y=0
   ·have ea:=z6U h2
    rw [if_pos h2,zJ5 λz hz=>by
     have e:(if y.At.Kind<3 then (⟨y.At,x.Exp+y.Exp⟩:Fc) else y).At=y.At:=by split <;>rfl
     have:=hb z hz;unfold cF at this ⊢; rw [e]; exact this]
    rw [zbz,if_neg h1,if_neg (show ¬ 0<cF x y by omega)]
    congr 1;have hx:=ha x (by simp)
    obtain ⟨xa,xe⟩:=x;obtain ⟨ya,ye⟩:=y;simp only at ea;subst ea;obtain ⟨⟨k0,k4⟩,h3⟩:=hx;obtain ⟨_,h3'⟩:=hy;simp only at k0 k4 h3 h3' ⊢;by_cases hk:xa.Kind<3
    ·rw [if_pos hk,if_neg (by omega)]
    ·have hk':xa.Kind=3\/xa.Kind=4:=by omega
     rw [if_neg hk,if_pos hk',h3 hk',h3' hk']
   ·rw [if_neg h2,zJ5 hb];rw [zbz,if_neg h1,if_pos (by omega)]
theorem zPl:∀ (b a:yC),Srf b->(∀ x∈a,eOK x)->(∀ x∈b,eOK x)->b.foldl (λl f=>zFH f l) a=zbz a b
 | [],a,_,_,_=>by rw [zFs]; rfl
 | y::b,a,hs,ha,hb=>by
  have hc:=qi.1 hs;have hy:=hb y (by simp)
  rw [List.foldl_cons,zPl b (zFH y a) hc.2 (λx hx=> ?_) λx hx=>hb x (by simp [hx]),z3e hc.1 hy ha]
  -- kinds and exponents are kept
  clear hs hc hb;induction a with
  | nil=>simp only [zFH,qh] at hx; subst hx; exact hy
  | cons z r ih=>
   unfold zFH at hx;split at hx
   ·rcases qd.1 hx with rfl | hx
    ·exact ha _ (by simp)
    ·exact ih (λw hw=>ha w (by simp [hw])) hx
   ·split at hx
    ·rcases qd.1 hx with rfl | hx
     ·split
      ·rename_i hk; exact ⟨hy.1,λh=>by simp only at h; omega⟩
      ·exact hy
     ·exact ha x (by simp [hx])
    ·rcases qd.1 hx with rfl | hx
     ·exact hy
     ·exact ha x hx
theorem zs5 {x:Fc}:∀ {a b:yC},x∈zbz a b->∃ y,(y∈a\/y∈b)/\x.At=y.At
 | [],b,h=>⟨x,.inr (by rwa [zbz] at h),rfl⟩
 | y::a,[],h=>⟨x,.inl (by rwa [zbz] at h),rfl⟩
 | y::a,z::b,h=>by
  rw [zbz] at h;split at h
  ·rcases qd.1 h with rfl | h
   ·exact ⟨x,.inl (by simp),rfl⟩
   ·obtain ⟨w,hw,e⟩:=zs5 h;rcases hw with hw | hw
    ·exact ⟨w,.inl (by simp [hw]),e⟩
    ·exact ⟨w,.inr hw,e⟩
  ·split at h
   ·rcases qd.1 h with rfl | h
    ·exact ⟨x,.inr (by simp),rfl⟩
    ·obtain ⟨w,hw,e⟩:=zs5 h;rcases hw with hw | hw
     ·exact ⟨w,.inl hw,e⟩
     ·exact ⟨w,.inr (by simp [hw]),e⟩
   ·rcases qd.1 h with rfl | h
    ·exact ⟨y,.inl (by simp),by split <;>rfl⟩
    ·obtain ⟨w,hw,e⟩:=zs5 h;rcases hw with hw | hw
     ·exact ⟨w,.inl (by simp [hw]),e⟩
     ·exact ⟨w,.inr (by simp [hw]),e⟩
termination_by a b=>a.length+b.length
theorem zIX:∀ (a b:yC),(zbz a b).length<=a.length+b.length
 | [],b=>by rw [zbz]; simp
 | y::a,[]=>by rw [zbz]; simp
 | y::a,z::b=>by
  rw [zbz];split
  ·have:=zIX a (z::b); simp only [qf] at this ⊢; omega
  ·split
   ·have:=zIX (y::a) b; simp only [qf] at this ⊢; omega
   ·have:=zIX a b; simp only [qf] at this ⊢; omega
termination_by a b=>a.length+b.length
theorem zI3 {x:Fc} {B:Int}:∀ {a b:yC},(∀ y∈a,1<=y.Exp/\y.Exp<=B)->(∀ y∈b,1<=y.Exp/\y.Exp<=B)->x∈zbz a b->1<=x.Exp/\x.Exp<=2*B
 | [],b,ha,hb,h=>by rw [zbz] at h; have:=hb x h; omega
 | y::a,[],ha,hb,h=>by rw [zbz] at h; have:=ha x h; omega
 | y::a,z::b,ha,hb,h=>by
  have hy:=ha y (by simp)
  have hz:=hb z (by simp)
  rw [zbz] at h;split at h
  ·rcases qd.1 h with rfl | h
   ·omega
   ·exact zI3 (λw hw=>ha w (by simp [hw])) hb h
  ·split at h
   ·rcases qd.1 h with rfl | h
    ·omega
    ·exact zI3 ha (λw hw=>hb w (by simp [hw])) h
   ·rcases qd.1 h with rfl | h
    ·split
     ·omega
     ·simp only; omega
    ·exact zI3 (λw hw=>ha w (by simp [hw])) (λw hw=>hb w (by simp [hw])) h
termination_by a b=>a.length+b.length
def zyj (a b:Int):Int:=if Int.tdiv 1152921504606846976 b<a then 1152921504606846976 else a*b
def zi1 (x y:Term):Term:=⟨zyj x.Cf y.Cf,zbz x.Fs y.Fs⟩
def zfb (a b:yB):yB:=a.flatMap λx=>b.map (zi1 x)
def znl (a b:yB):yB:=zcp [] (zfb a b)
theorem zYZ {a b:Int} (ha:1<=a/\a<=1152921504606846976) (hb:1<=b/\b<=1152921504606846976):(1<=zyj a b/\zyj a b<=1152921504606846976)/\(¬ Int.tdiv 1152921504606846976 b<a->a*b<=1152921504606846976):=by
 have h1:¬ Int.tdiv 1152921504606846976 b<a->a*b<=1152921504606846976:=λh=>by
  rw [Int.tdiv_eq_ediv_of_nonneg (by omega)] at h
  have h2:a<=1152921504606846976 / b:=by omega
  exact (Int.le_ediv_iff_mul_le (by omega)).1 h2
 refine ⟨?_,h1⟩;unfold zyj;split
 ·omega
 ·rename_i h;refine ⟨?_,h1 h⟩;have:=Int.mul_le_mul ha.1 hb.1 (by omega) (by omega)
  omega
theorem z1q {t:Term} {a b:yB} (h:t∈zfb a b):∃ x∈a,∃ y∈b,t=zi1 x y:=by
 obtain ⟨x,hx,ht⟩:=List.mem_flatMap.1 h;obtain ⟨y,hy,rfl⟩:=List.mem_map.1 ht;exact ⟨x,hx,y,hy,rfl⟩
theorem zUK (a b:yB):(zfb a b).length=a.length*b.length:=by
 unfold zfb;induction a with
 | nil=>simp
 | cons x r ih=>rw [List.flatMap_cons,qg,ih,List.length_map,qf,Nat.add_mul]; omega
end Go.Proofs.YtoknknbmfmddbaaGreatDoor
end
