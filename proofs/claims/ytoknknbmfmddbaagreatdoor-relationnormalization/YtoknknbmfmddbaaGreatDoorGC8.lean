/- Texts of this claim, joined (the program, its functions in plain words, and what they compute). -/
import Derived.Test.YtoknknbmfmddbaaGreatDoorGC7
set_option autoImplicit false
set_option linter.unusedVariables false
set_option linter.unusedSectionVars false
set_option linter.unusedSimpArgs false
set_option maxRecDepth 1000000
set_option maxHeartbeats 0
/- Which annotations are valid: both sides compute the same. -/
noncomputable section
namespace Go.Proofs.YtoknknbmfmddbaaGreatDoor
open Go Go.Ab
def rz (r:RowID):Bool:=r.Table==(0:Int)&&(r.Seq==(0:Int)&&true)
def zq6 (V:yB->Bool) (l:yA):Bool:=l.all λa=>V a&& !(a.length==0)
def zCs (V:yB->Bool) (l:yD):Bool:=l.all λw=>V w.Ann&& !(w.Ann.length==0)
def zzc (r:RowID):Bool:=decide (r.Table≥1)&&decide (r.Seq≥1)
def zFW (p:yB->Bool):yA->Bool
 | [a]=>p a
 | _=>false
def z3f (p:yB->yB->Bool):yA->Bool
 | [a,b]=>p a b
 | _=>false
def zd3 (V:yB->Bool) (x:At):Bool:=
 zq6 V x.Ag&&
 if x.Kind=0 then plA x&&zzc x.Row&&(x.Ag.length==0)
 else rz x.Row&&
  if x.Kind=1 then plA x&&z3f (λa b=> !decide (a=b)) x.Ag
  else if x.Kind=2 then plA x&&zFW (λa=> !isC a&& !isU a) x.Ag
  else if x.Kind=3 then plA x&&zFW (λa=> !zxo a) x.Ag
  else if x.Kind=4 then (x.Ag.length==0)&&decide (0<x.Items.length)&&zCs V x.Items&&zW3 x.Items&&zz6 x.Func x.Items x.Op x.Bd
  else false
def zOn (vat:At->Bool) (fs:yC) (k:Nat):Bool:=
 decide (1<=(fs.getD k default).Exp)&& !(((fs.getD k default).At.Kind==3||(fs.getD k default).At.Kind==4)&&(fs.getD k default).Exp != 1)&&
  (decide (k=0)||decide (zbb (zdO (fs.getD (k - 1) default).At) (zdO (fs.getD k default).At)<0))&&vat (fs.getD k default).At
def okF (vat:At->Bool) (fs:yC):Bool:=zdK (zOn vat fs) fs.length 0
def zDt (vat:At->Bool) (a:yB) (i:Nat):Bool:=
 decide (1<=(a.getD i default).Cf)&&decide ((a.getD i default).Cf<=1152921504606846976)&&
  (decide (i=0)||decide (zbr (zby (a.getD (i - 1) default).Fs) (zby (a.getD i default).Fs)<0))&&okF vat (a.getD i default).Fs
def zxP (vat:At->Bool) (a:yB):Bool:=zfs a&&zdK (zDt vat a) a.length 0
def zbA:Nat->yB->Bool
 | 0,_=>false
 | n+1,a=>zxP (zd3 (zbA n)) a
theorem zDS (r:RowID):zqw r=(true,zzc r):=by
 unfold zqw zP7 zzc;rw [Wy.fin_i,Wy.fin_k,Wy.fin_k];cases decide (r.Table≥1) <;>rfl
theorem zC1 {V:yB->Bool} {x:At} (h:zd3 V x=true):0<=x.Kind/\x.Kind<=4:=by
 unfold zd3 at h;by_cases h0:x.Kind=0
 ·omega
 by_cases h1:x.Kind=1
 ·omega
 by_cases h2:x.Kind=2
 ·omega
 by_cases h3:x.Kind=3
 ·omega
 by_cases h4:x.Kind=4
 ·omega
 simp [h0,h1,h2,h3,h4] at h
theorem zrq (l k:Nat):((Int.ofNat l)==(k:Int))=(l==k):=by
 rw [zf8,z0D]; congr 1; simp; omega
section
variable (V:yB->Bool) (gW:yD->Bool×Bool) (gA:yA->Bool×Bool) (c1:yB->Bool×Bool) (c2:Wd->Bool×Bool)
theorem z4E (x:At) {d:Nat} (hx:zc7 (zp d) x) (hd:d<=99) (hA:gA x.Ag=(true, !zq6 V x.Ag)) (hW:gW x.Items=(true, !zCs V x.Items)):
  zjC gA c1 gW c2 x=(true,zd3 V x):=by
 have hS:=z9O x.Items hx.1.2.1 (λw hw=>(hx.2.2 w hw).2) hd
 have hF:=z2T x.Func x.Items x.Op x.Bd hx.1.2.1;have hE:∀ a∈x.Ag,∀ b,zhU a b=(true,decide (a=b)):=λa ha b=>zEM (hx.2.1 a ha) (by omega) b
 have hC:∀ a∈x.Ag,zeY a=(true,zxo a):=λa ha=>zQh a (by
  have:=hx.2.1 a ha;cases d with
  | zero=>exact this.elim
  | succ d=>have:=this.1; omega)
 obtain ⟨k,r,l,f,its,o,b⟩:=x;simp only at hA hW hS hF hE hC;unfold zjC zca zd3 plA;simp only [zDS,hA,hW,hS,hF,Wy.fin_i,Wy.fin_k,Wy.fin_bn,cond_true]
 rw [show (b.Kind==(0:Int)&&(b.Int==(0:Int)&&(b.Text.toList==(ByteArray.mk #[]).toList&&true)))=bz b from rfl,
  show (r.Table==(0:Int)&&(r.Seq==(0:Int)&&true))=rz r from rfl,
  show (Int.ofNat its.length != 0)= !(its.length==0) from congrArg not (zrq its.length 0),show (f != 0)= !(f==0) from rfl,show (o != 0)= !(o==0) from rfl]
 generalize zq6 V l=A at *;generalize zCs V its=W at *;generalize bz b=B at *;generalize (f==0)=F at *;generalize (o==0)=O at *;generalize rz r=R at *;generalize zzc r=RO at *;generalize zW3 its=S at *;generalize zz6 f its o b=K at *;have hgt:decide (Int.ofNat its.length>0)=decide (0<its.length):=zjp its.length 0;rw [hgt];generalize (its.length==0)=I at *;generalize decide (0<its.length)=J at *;by_cases h0:k=0
 ·subst h0;simp only [zrq,show ((Int.ofNat l.length)==(0:Int))=(l.length==0) from zrq l.length 0]
  generalize (l.length==0)=L;cases F <;>cases I <;>cases O <;>cases B <;>cases A <;>cases RO <;>rfl
 by_cases h1:k=1
 ·subst h1
  match l,hE with
  | [],_=>cases F <;>cases I <;>cases O <;>cases B <;>cases A <;>cases R <;>rfl
  | [u],_=>cases F <;>cases I <;>cases O <;>cases B <;>cases A <;>cases R <;>rfl
  | [u,v],hE=>
   have e:=hE u (by simp) v
   simp only [List.getD,qf,List.length_nil,Int.toNat_zero,List.getElem?_cons_zero,List.getElem?_cons_succ,Option.getD,show Int.toNat 1=1 from rfl,z3f]
   simp only [e];generalize decide (u=v)=E;cases F <;>cases I <;>cases O <;>cases B <;>cases A <;>cases R <;>rfl
  | u::v::w::l,_=>
   have e:((Int.ofNat (u::v::w::l).length)==(2:Int))=false:=by rw [beq_eq_false_iff_ne]; simp; omega
   simp only [e];cases F <;>cases I <;>cases O <;>cases B <;>cases A <;>cases R <;>rfl
 by_cases h2:k=2
 ·subst h2
  match l with
  | []=>cases F <;>cases I <;>cases O <;>cases B <;>cases A <;>cases R <;>rfl
  | [u]=>
   simp only [List.getD,qf,List.length_nil,Int.toNat_zero,List.getElem?_cons_zero,Option.getD,zFW,zST,z5t];generalize isC u=E;generalize isU u=E';cases F <;>cases I <;>cases O <;>cases B <;>cases A <;>cases R <;>cases E <;>cases E' <;>rfl
  | u::v::l=>
   simp only [zOA];cases F <;>cases I <;>cases O <;>cases B <;>cases A <;>cases R <;>rfl
 by_cases h3:k=3
 ·subst h3
  match l,hC with
  | [],_=>cases F <;>cases I <;>cases O <;>cases B <;>cases A <;>cases R <;>rfl
  | [u],hC=>
   have e:=hC u (by simp)
   simp only [List.getD,qf,List.length_nil,Int.toNat_zero,List.getElem?_cons_zero,Option.getD,zFW];simp only [e];generalize zxo u=E;cases F <;>cases I <;>cases O <;>cases B <;>cases A <;>cases R <;>cases E <;>rfl
  | u::v::l,_=>
   simp only [zOA];cases F <;>cases I <;>cases O <;>cases B <;>cases A <;>cases R <;>rfl
 by_cases h4:k=4
 ·subst h4;simp only [show ((Int.ofNat l.length)==(0:Int))=(l.length==0) from zrq l.length 0]
  generalize (l.length==0)=L;cases A <;>cases W <;>cases L <;>cases J <;>cases S <;>cases K <;>cases R <;>rfl
 simp only [zf8,h0,h1,h2,h3,h4,decide_false,if_false,cond_false];cases F <;>cases I <;>cases O <;>cases B <;>cases A <;>cases R <;>rfl
end
section
variable (V:yB->Bool) (g:yB->Bool×Bool)
theorem zbhQ (x:At) (hl:x.Ag.length<=1000000) (hg:∀ a∈x.Ag,g a=(true,V a)) (n:Nat) (hn:x.Ag.length<n):zv9 g n 0 x=(true,bif zq6 V x.Ag then .inr x else .inl false):=by
 have:=zcs (W:=zvz g) (z:=.inl default) x.Ag.length (λi=>((),(i:Int),())) (λ_=>(x,())) (λi=>(λa:yB=>V a&& !(a.length==0)) (x.Ag.getD i default)) (.inl false) (.inr x)
  (λi hi H K D=>by
   show (zkV g i x).ev H K D=_;unfold zkV;have hL:decide ((i:Int)<Int.ofNat x.Ag.length)=true:=by simp [hi]
   simp only [Wy.ev_i,Wy.ev_k,Wy.ev_h,Wy.ev_bn,Wy.ev_d,hL,zep,Bool.and_self,cond_true,Int.toNat_natCast,hg _ (zn hi)];rw [zw (by omega),show (Int.ofNat (x.Ag.getD i default).length==(0:Int))=((x.Ag.getD i default).length==0) from zrq _ 0]
   cases V (x.Ag.getD i default) <;>cases ((x.Ag.getD i default).length==0) <;>rfl)
  (λH K D=>by
   show (zkV g x.Ag.length x).ev H K D=_;unfold zkV;have hL:decide ((x.Ag.length:Int)<Int.ofNat x.Ag.length)=false:=by simp
   simp only [Wy.ev_i,Wy.ev_k,hL,cond_false]) n hn
 rw [zy8 (λa:yB=>V a&& !(a.length==0))] at this
 exact this
theorem z7k {τ:Type} [Inhabited τ] (l:List τ) (i:Nat) (h:i<l.length):List.take 1 (List.drop i l)=[l.getD i default]:=by
 rw [zbg h]; rfl
theorem zbeT (x y:TT):zbr [x] [y]=zbb x y:=by
 simp only [zbr];split
 ·rename_i h; exact h.symm
 ·rfl
theorem zbhw (x:At) {d:Nat} (hx:zc7 (zp d) x) (hd:d<=99) (hg:∀ a∈x.Items,g a.Ann=(true,V a.Ann)) (n:Nat) (hn:x.Items.length<n):zCo g n 0 x=(true,bif zCs V x.Items&&zW3 x.Items then .inr () else .inl false):=by
 have hl:x.Items.length<=1000000:=hx.1.2.1
 have:=zcs (W:=zuP g) (z:=.inl default) x.Items.length (λi=>((),(i:Int),())) (λ_=>(x,())) (λi=>(λw:Wd=>V w.Ann&& !(w.Ann.length==0)) (x.Items.getD i default)&&zSF x.Items i) (.inl false) (.inr ())
  (λi hi H K D=>by
   show (zj2 g i x).ev H K D=_;unfold zj2;have hL:decide ((i:Int)<Int.ofNat x.Items.length)=true:=by simp [hi]
   simp only [Wy.ev_i,Wy.ev_k,Wy.ev_h,Wy.ev_bn,Wy.ev_d,hL,zep,Bool.and_self,cond_true,Int.toNat_natCast,hg _ (zn hi)];rw [zw (by omega),show (Int.ofNat (x.Items.getD i default).Ann.length==(0:Int))=((x.Items.getD i default).Ann.length==0) from zrq _ 0]
   cases V (x.Items.getD i default).Ann <;>cases ((x.Items.getD i default).Ann.length==0) <;>try rfl
   simp only [cond_true,cond_false,Bool.not_true,Bool.not_false,Bool.and_self,Bool.true_and];cases i with
   | zero=>rfl
   | succ i=>
    have hi':i<x.Items.length:=by omega
    have hw:IntKind.i64.wrap (((i+1:Nat):Int) - 1)=(i:Int):=by rw [zyM (by omega) (by omega)]; rfl
    have e1:(decide ((0:Int)<=(i:Int))&&decide ((i:Int)<=((i+1:Nat):Int))&&decide (((i+1:Nat):Int)<=Int.ofNat x.Items.length))=true:=by
     simp; try omega
    have e2:(decide (((i+1:Nat):Int)<=((i+1+1:Nat):Int))&&decide (((i+1+1:Nat):Int)<=Int.ofNat x.Items.length))=true:=by
     simp; try omega
    have e3:decide (((i+1:Nat):Int)>0)=true:=by simp; try omega
    simp only [hw,e1,e2,e3,cond_true,Bool.true_and,Int.toNat_natCast,show i+1 - i=1 by omega,show i+1+1 - (i+1)=1 by omega,z7k _ _ hi,z7k _ _ hi']
    rw [zCx (d:=d) (by simp) (λw hw=>by
     rw [qh] at hw; subst hw; exact (hx.2.2 _ (zn hi')).2) hd,zmF,zmF]
    simp only [List.map,zbeT,cond_true,zSF,show i+1 - 1=i from rfl]
    have e4:decide (i+1=0)=false:=by simp
    rw [e4,Bool.false_or];generalize zbb (zbc (x.Items.getD i default)) (zbc (x.Items.getD (i+1) default))=z;by_cases hz:z>0
    ·have:¬ z<=0:=by omega
     simp only [hz,this,decide_true,decide_false,cond_true,cond_false]
    ·have:z<=0:=by omega
     simp only [hz,this,decide_true,decide_false,cond_true,cond_false])
  (λH K D=>by
   show (zj2 g x.Items.length x).ev H K D=_;unfold zj2;have hL:decide ((x.Items.length:Int)<Int.ofNat x.Items.length)=false:=by simp
   simp only [Wy.ev_i,Wy.ev_k,hL,cond_false]) n hn
 rw [z7O (λi=>(λw:Wd=>V w.Ann&& !(w.Ann.length==0)) (x.Items.getD i default)),zy8 (λw:Wd=>V w.Ann&& !(w.Ann.length==0))] at this
 exact this
theorem zXJ {A ρ:Type} (s:A) (k:A->Wy0 ρ) (z:ρ):(Wy.bn (true,s) k).fin z=(k s).fin z:=rfl
theorem z2U (x:At) {d:Nat} (hx:zc7 (zp d) x) (hd:d<=99) (h10:x.Items.length<=1024) (hV:∀ a,V a=true->isB a=isU a) (hgA:∀ a∈x.Ag,g a=(true,V a)) (hgI:∀ a∈x.Items,g a.Ann=(true,V a.Ann)):
  zoM g x=(true,zd3 V x):=by
 have hS:=λn hn=>zbhw V g x hx hd hgI n hn
 have hA:=λn hn=>zbhQ V g x hx.1.1 hgA n hn
 have hF:=z8b x.Func x.Items x.Op x.Bd hx.1.2.1;have hE:∀ a∈x.Ag,∀ b,zpB a b=(true,decide (a=b)):=λa ha b=>zIl (hx.2.1 a ha) (by omega) b
 have hC:∀ a∈x.Ag,ziB a=(true,zxo a):=λa ha=>zAf a (by
  have:=hx.2.1 a ha;cases d with
  | zero=>exact this.elim
  | succ d=>have:=this.1; omega)
 have hP:=zbeA x;unfold zoM zEY zd3;obtain ⟨s,hs1,hs2⟩:∃ s,zv9 g (Int.toNat (0:Int)+x.Ag.length+x.Items.length+(1:Nat)) 0 x=(true,s)/\s=bif zq6 V x.Ag then .inr x else .inl false:=⟨_,hA _ (by omega),rfl⟩
 rw [At.eta,hP,hs1];simp only [Wy.fin_i,Wy.fin_k,zXJ];simp only [Wy.fin_i,Wy.fin_k,Wy.fin_bn,cond_true];rw [show (x.Row.Table==(0:Int)&&(x.Row.Seq==(0:Int)&&true))=rz x.Row from rfl]
 have b0:(x.Kind==(0:Int))=decide (x.Kind=0):=zf8 _ _;have b1:(x.Kind==(1:Int))=decide (x.Kind=1):=zf8 _ _;have b2:(x.Kind==(2:Int))=decide (x.Kind=2):=zf8 _ _;have b3:(x.Kind==(3:Int))=decide (x.Kind=3):=zf8 _ _;have b4:(x.Kind==(4:Int))=decide (x.Kind=4):=zf8 _ _;by_cases h0:x.Kind=0
 ·rw [b0];simp only [h0,decide_true,cond_true,if_true];rw [show (Int.ofNat x.Ag.length==(0:Int))=(x.Ag.length==0) from zrq _ 0]
  unfold zzc
  match hl:x.Ag with
  | []=>cases decide (x.Row.Table≥1) <;>cases decide (x.Row.Seq≥1) <;>cases plA x <;>rfl
  | u::l=>cases decide (x.Row.Table≥1) <;>cases decide (x.Row.Seq≥1) <;>cases plA x <;>cases zq6 V (u::l) <;>rfl
 rw [b0];simp only [h0,decide_false,cond_false,if_false];cases hA:zq6 V x.Ag with
 | false=>rw [hs2,hA]; cases rz x.Row <;>rfl
 | true=>
 rw [hA,cond_true] at hs2;have hy:getR s=x:=by rw [hs2]; rfl
 have hy2:isL s=false:=by rw [hs2]; rfl
 rw [hy2];generalize getR s=y at hy ⊢;subst hy;cases rz y.Row with
 | false=>rfl
 | true=>
 simp only [Bool.not_true,cond_false,cond_true,isL,getR,Bool.true_and,At.eta,hP,hF,b1,b2,b3,b4];by_cases h1:y.Kind=1
 ·simp only [h1,decide_true,cond_true,if_true]
  match hl:y.Ag with
  | []=>cases plA y <;>rfl
  | [u]=>cases plA y <;>rfl
  | [u,v]=>
   have e:=hE u (by rw [hl]; simp) v
   simp only [List.getD,qf,List.length_nil,Int.toNat_zero,List.getElem?_cons_zero,List.getElem?_cons_succ,Option.getD,show Int.toNat 1=1 from rfl,z3f]
   simp only [e];generalize decide (u=v)=E;cases plA y <;>rfl
  | u::v::w::l=>
   have e:((Int.ofNat (u::v::w::l).length)==(2:Int))=false:=by rw [beq_eq_false_iff_ne]; simp; omega
   simp only [e];cases plA y <;>rfl
 simp only [h1,decide_false,cond_false,if_false];by_cases h2:y.Kind=2
 ·simp only [h2,decide_true,cond_true,if_true]
  match hl:y.Ag with
  | []=>cases plA y <;>rfl
  | [u]=>
   have e:=hC u (by rw [hl]; simp)
   have eV:V u=true:=by
    rw [hl] at hA;unfold zq6 at hA;simp at hA;exact hA.1
   simp only [List.getD,qf,List.length_nil,Int.toNat_zero,List.getElem?_cons_zero,Option.getD,zFW,zMZ,e,hV u eV]
   match u with
   | []=>cases plA y <;>rfl
   | [t]=>
    have e1:zxo [t]=(t.Fs.length==0):=by simp [zxo]
    have e2:isC [t]=(t.Fs.length==0):=rfl;rw [e1,e2];cases plA y <;>cases (t.Fs.length==0) <;>cases isU [t] <;>rfl
   | t::s::r=>
    simp only [zOA];cases plA y <;>rfl
  | u::v::l=>
   simp only [zOA];cases plA y <;>rfl
 simp only [h2,decide_false,cond_false,if_false];by_cases h3:y.Kind=3
 ·simp only [h3,decide_true,cond_true,if_true]
  match hl:y.Ag with
  | []=>cases plA y <;>rfl
  | [u]=>
   have e:=hC u (by rw [hl]; simp)
   simp only [List.getD,qf,List.length_nil,Int.toNat_zero,List.getElem?_cons_zero,Option.getD,zFW];simp only [e];cases plA y <;>cases zxo u <;>rfl
  | u::v::l=>
   simp only [zOA];cases plA y <;>rfl
 simp only [h3,decide_false,cond_false,if_false];by_cases h4:y.Kind=4
 ·have e10:decide (Int.ofNat y.Items.length>(1024:Int))=false:=by simp; omega
  rw [hS _ (by omega)]
  rw [e10];simp only [h4,decide_true,cond_true,if_true,cond_false];rw [show (Int.ofNat y.Ag.length != (0:Int))= !(y.Ag.length==0) from congrArg not (zrq y.Ag.length 0),show (Int.ofNat y.Items.length==(0:Int))=(y.Items.length==0) from zrq y.Items.length 0]
  have e11:decide (0<y.Items.length)= !(y.Items.length==0):=by
   rw [z0D];by_cases h:y.Items.length=0
   ·simp [h]
   ·have:0<y.Items.length:=by omega
    simp [h,this]
  rw [e11];cases (y.Ag.length==0) <;>cases (y.Items.length==0) <;>cases zz6 y.Func y.Items y.Op y.Bd <;>cases zCs V y.Items <;>cases zW3 y.Items <;>rfl
 simp only [h4,decide_false,cond_false,if_false]
end
section
variable (V:yB->Bool) (vat:At->Bool)
theorem V_9 (g:At->Bool×Bool) (a t10:yB) (t11 t12:Int) (t:Term) {d:Nat} (ht:zgJ (zp d) t.Fs) (hd:d<=99) (hg:∀ f∈t.Fs,g f.At=(true,vat f.At)) (n:Nat) (hn:t.Fs.length<n):
  zur g n a t10 t11 t12 t.Fs t.Fs.length 0 t=(true,bif okF vat t.Fs then .inr (a,t10,t11,t12) else .inl false):=by
 have hl:=ht.1
 exact zcs (W:=zuA g) (z:=.inl default) t.Fs.length (λk=>(a,(),t10,t11,t12,t.Fs,(t.Fs.length:Int),(k:Int),())) (λ_=>(t,())) (zOn vat t.Fs) (.inl false) (.inr (a,t10,t11,t12))
  (λk hk H K D=>by
   show (zjZ g a t10 t11 t12 t.Fs t.Fs.length k t).ev H K D=_;unfold zjZ zOn
   have hgt:decide ((k:Int)>0)= !decide (k=0):=by
    by_cases h:k=0
    ·subst h; rfl
    ·have:0<k:=by omega
     simp [h,this]
   simp only [At.eta,Wy.ev_i,Wy.ev_k,Wy.ev_h,Wy.ev_bn,Wy.ev_d,tT,hk,z4e,hg _ (zn hk),hgt];rw [zw (by omega)]
   have e1:decide ((t.Fs.getD k default).Exp<1)= !decide (1<=(t.Fs.getD k default).Exp):=by
    by_cases h:1<=(t.Fs.getD k default).Exp
    ·have:¬ (t.Fs.getD k default).Exp<1:=by omega
     simp only [h,this,decide_true,decide_false,Bool.not_true]
    ·have:(t.Fs.getD k default).Exp<1:=by omega
     simp only [h,this,decide_true,decide_false,Bool.not_false]
   rw [e1];generalize decide (1<=(t.Fs.getD k default).Exp)=E1;generalize ((t.Fs.getD k default).Exp != 1)=E2;generalize ((t.Fs.getD k default).At.Kind==3||(t.Fs.getD k default).At.Kind==4)=E3;by_cases h0:k=0
   ·simp only [h0,decide_true,Bool.not_true,cond_false,Bool.true_or,Bool.and_true];cases E1 <;>cases E2 <;>cases E3 <;>cases vat (t.Fs.getD 0 default).At <;>rfl
   ·have hp:IntKind.i64.wrap ((k:Int) - 1)=((k - 1:Nat):Int):=zyM (by omega) (by omega)
    have hk':k - 1<t.Fs.length:=by omega
    have hfx:zc7 (zp d) (t.Fs.getD (k - 1) default).At:=ht.2 _ (zn hk')
    have e2:∀ z:Int,decide (z≥0)= !decide (z<0):=λz=>by
     by_cases h:z<0
     ·have:¬ z≥0:=by omega
      simp [h,this]
     ·have:z≥0:=by omega
      simp [h,this]
    simp only [h0,hp,tT,hk',zwu hfx hd,e2,Bool.false_or];generalize decide (zbb (zdO (t.Fs.getD (k - 1) default).At) (zdO (t.Fs.getD k default).At)<0)=E4;cases E1 <;>cases E2 <;>cases E3 <;>cases E4 <;>cases vat (t.Fs.getD k default).At <;>rfl)
  (λH K D=>by
   show (zjZ g a t10 t11 t12 t.Fs t.Fs.length t.Fs.length t).ev H K D=_;unfold zjZ;simp only [Wy.ev_i,Wy.ev_k,tT,Nat.lt_irrefl]) n hn
theorem V_4 (g:At->Bool×Bool) (a:yB) {d:Nat} (h:zp (d+1) a) (hd:d<=99) (hg:∀ t∈a,∀ f∈t.Fs,g f.At=(true,vat f.At)) (n:Nat) (hn:a.length<n):
  zBW g n a a a.length 0=(true,bif zdK (zDt vat a) a.length 0 then .inr () else .inl false):=by
 have hl:=h.1
 exact zcs (W:=zuo g) (z:=.inl default) a.length (λk=>(a,a,(a.length:Int),(k:Int),())) (λ_=>()) (zDt vat a) (.inl false) (.inr ())
  (λk hk H K D=>by
   show (zj4 g a a a.length k).ev H K D=_;unfold zj4 zDt;have ht:=h.2 _ (zn hk)
   have hgt:decide ((k:Int)>0)= !decide (k=0):=by
    by_cases h:k=0
    ·subst h; rfl
    ·have:0<k:=by omega
     simp [h,this]
   simp only [At.eta,Wy.ev_i,Wy.ev_k,Wy.ev_h,Wy.ev_bn,Wy.ev_d,tT,hk,hgt];rw [V_9 vat g a a a.length k _ ht hd (hg _ (zn hk)) _ (by omega)]
   have e1:decide ((a.getD k default).Cf<1)= !decide (1<=(a.getD k default).Cf):=by
    by_cases h:1<=(a.getD k default).Cf
    ·have:¬ (a.getD k default).Cf<1:=by omega
     simp only [h,this,decide_true,decide_false,Bool.not_true]
    ·have:(a.getD k default).Cf<1:=by omega
     simp only [h,this,decide_true,decide_false,Bool.not_false]
   have e3:decide ((a.getD k default).Cf>1152921504606846976)= !decide ((a.getD k default).Cf<=1152921504606846976):=by
    by_cases h:(a.getD k default).Cf<=1152921504606846976
    ·have:¬ (a.getD k default).Cf>1152921504606846976:=by omega
     simp only [h,this,decide_true,decide_false,Bool.not_true]
    ·have:(a.getD k default).Cf>1152921504606846976:=by omega
     simp only [h,this,decide_true,decide_false,Bool.not_false]
   rw [e1,e3];generalize decide (1<=(a.getD k default).Cf)=E1;generalize decide ((a.getD k default).Cf<=1152921504606846976)=E2;by_cases h0:k=0
   ·subst h0;simp only [decide_true,Bool.not_true,cond_false,Bool.true_or,Bool.and_true];cases okF vat (a.getD 0 default).Fs <;>cases E1 <;>cases E2 <;>try rfl
   ·have hp:IntKind.i64.wrap ((k:Int) - 1)=((k - 1:Nat):Int):=zyM (by omega) (by omega)
    have hk':k - 1<a.length:=by omega
    have hfx:zgJ (zp d) (a.getD (k - 1) default).Fs:=h.2 _ (zn hk')
    have e2:∀ z:Int,decide (z≥0)= !decide (z<0):=λz=>by
     by_cases h:z<0
     ·have:¬ z≥0:=by omega
      simp [h,this]
     ·have:z≥0:=by omega
      simp [h,this]
    simp only [h0,hp,tT,hk',zwv hfx hd,e2,Bool.false_or];generalize decide (zbr (zby (a.getD (k - 1) default).Fs) (zby (a.getD k default).Fs)<0)=E4;cases okF vat (a.getD k default).Fs <;>cases E1 <;>cases E2 <;>cases E4 <;>try rfl
    simp only [cond_true,cond_false,Bool.not_true,isL,getR,Bool.and_self];rw [zw (by omega),decide_eq_false (show ¬ ((k - 1:Nat):Int)<0 by omega)]; rfl)
  (λH K D=>by
   show (zj4 g a a a.length a.length).ev H K D=_;unfold zj4;simp only [Wy.ev_i,Wy.ev_k,tT,Nat.lt_irrefl]) n hn
theorem zbbv (g:At->Bool×Bool) (a:yB) {d:Nat} (h:zp (d+1) a) (hd:d<=99) (hs:zN a<=4611686018427387904) (hg:∀ t∈a,∀ f∈t.Fs,g f.At=(true,vat f.At)):znu g a=(true,zxP vat a):=by
 unfold znu zCZ zxP;have:=V_4 vat g a h hd hg (a.length+a.length+(Int.ofNat a.length).toNat +Int.toNat (0:Int)+(1:Nat)) (by omega)
 rw [show Int.ofNat a.length=(a.length:Int) from rfl] at *
 simp only [Wy.fin_i,Wy.fin_k,Wy.fin_bn,z5U h (by omega) hs,this,cond_true]
 cases zfs a <;>cases zdK (zDt vat a) a.length 0 <;>rfl
theorem zbh5 (g:At->Bool×Bool) (a:yB) (i:Int) (t:Term) {d:Nat} (ht:zgJ (zp d) t.Fs) (hd:d<=99) (hg:∀ f∈t.Fs,g f.At=(true,vat f.At)) (hk:∀ x,vat x=true->0<=x.Kind/\x.Kind<=4) (n:Nat) (hn:t.Fs.length<n):
  zAj g n a i 0 t=(true,bif okF vat t.Fs then .inr (a,i) else .inl false):=by
 have hl:=ht.1
 exact zcs (W:=zAh g) (z:=.inl default) t.Fs.length (λk=>(a,i,(),(k:Int),())) (λ_=>(t,())) (zOn vat t.Fs) (.inl false) (.inr (a,i))
  (λk hk1 H K D=>by
   show (zo2 g a i k t).ev H K D=_;unfold zo2 zOn
   have hgt:decide ((k:Int)>0)= !decide (k=0):=by
    by_cases h:k=0
    ·subst h; rfl
    ·have:0<k:=by omega
     simp [h,this]
   simp only [At.eta,Wy.ev_i,Wy.ev_k,Wy.ev_h,Wy.ev_bn,Wy.ev_d,tT,hk1,hg _ (zn hk1),hgt];rw [zw (by omega)]
   have hk2:=hk (t.Fs.getD k default).At
   have e1:decide ((t.Fs.getD k default).Exp<1)= !decide (1<=(t.Fs.getD k default).Exp):=by
    by_cases h:1<=(t.Fs.getD k default).Exp
    ·have:¬ (t.Fs.getD k default).Exp<1:=by omega
     simp only [h,this,decide_true,decide_false,Bool.not_true]
    ·have:(t.Fs.getD k default).Exp<1:=by omega
     simp only [h,this,decide_true,decide_false,Bool.not_false]
   rw [e1];by_cases hx1:1<=(t.Fs.getD k default).Exp
   rotate_left
   ·simp only [hx1,decide_false,Bool.not_false,cond_true,Bool.false_and,cond_false]
   cases hv:vat (t.Fs.getD k default).At with
   | false=>
    rw [Bool.and_false];cases decide (1<=(t.Fs.getD k default).Exp) <;>cases decide ((t.Fs.getD k default).Exp>1) <;>cases decide ((t.Fs.getD k default).At.Kind≥3) <;>rfl
   | true=>
   obtain ⟨k1,k2⟩:=hk2 hv
   have e5:((t.Fs.getD k default).At.Kind==3||(t.Fs.getD k default).At.Kind==4)=decide ((t.Fs.getD k default).At.Kind≥3):=by
    rw [zf8,zf8, <- Bool.decide_or];congr 1;apply propext; omega
   have e6:((t.Fs.getD k default).Exp != 1)=decide ((t.Fs.getD k default).Exp>1):=by
    rw [zpE, <- decide_not];congr 1;apply propext; omega
   rw [e5,e6];simp only [hx1,decide_true,Bool.not_true,cond_false,Bool.true_and];generalize decide ((t.Fs.getD k default).Exp>1)=E2;generalize decide ((t.Fs.getD k default).At.Kind≥3)=E3;by_cases h0:k=0
   ·simp only [h0,decide_true,Bool.not_true,cond_false,Bool.true_or,Bool.and_true];cases E2 <;>cases E3 <;>rfl
   ·have hp:IntKind.i64.wrap ((k:Int) - 1)=((k - 1:Nat):Int):=zyM (by omega) (by omega)
    have hk':k - 1<t.Fs.length:=by omega
    have hfx:zc7 (zp d) (t.Fs.getD (k - 1) default).At:=ht.2 _ (zn hk')
    have e2:∀ z:Int,decide (z≥0)= !decide (z<0):=λz=>by
     by_cases h:z<0
     ·have:¬ z≥0:=by omega
      simp [h,this]
     ·have:z≥0:=by omega
      simp [h,this]
    simp only [h0,hp,tT,hk',zvD hfx hd,e2,Bool.false_or];generalize decide (zbb (zdO (t.Fs.getD (k - 1) default).At) (zdO (t.Fs.getD k default).At)<0)=E4;cases E2 <;>cases E3 <;>cases E4 <;>rfl)
  (λH K D=>by
   show (zo2 g a i t.Fs.length t).ev H K D=_;unfold zo2;simp only [Wy.ev_i,Wy.ev_k,tT,Nat.lt_irrefl]) n hn
theorem zbip (g:At->Bool×Bool) (a:yB) {d:Nat} (h:zp (d+1) a) (hd:d<=99) (hg:∀ t∈a,∀ f∈t.Fs,g f.At=(true,vat f.At)) (hk:∀ x,vat x=true->0<=x.Kind/\x.Kind<=4) (n:Nat) (hn:a.length<n):
  zJP g n a 0=(true,bif zdK (zDt vat a) a.length 0 then .inr () else .inl false):=by
 have hl:=h.1
 exact zcs (W:=zBi g) (z:=.inl default) a.length (λk=>(a,(k:Int),())) (λ_=>()) (zDt vat a) (.inl false) (.inr ())
  (λk hk1 H K D=>by
   show (zqz g a k).ev H K D=_;unfold zqz zDt;have ht:=h.2 _ (zn hk1)
   have hgt:decide ((k:Int)>0)= !decide (k=0):=by
    by_cases h:k=0
    ·subst h; rfl
    ·have:0<k:=by omega
     simp [h,this]
   simp only [At.eta,Wy.ev_i,Wy.ev_k,Wy.ev_h,Wy.ev_bn,Wy.ev_d,tT,hk1,hgt];rw [zbh5 vat g a k _ ht hd (hg _ (zn hk1)) hk _ (by omega)]
   have e1:decide ((a.getD k default).Cf<1)= !decide (1<=(a.getD k default).Cf):=by
    by_cases h:1<=(a.getD k default).Cf
    ·have:¬ (a.getD k default).Cf<1:=by omega
     simp only [h,this,decide_true,decide_false,Bool.not_true]
    ·have:(a.getD k default).Cf<1:=by omega
     simp only [h,this,decide_true,decide_false,Bool.not_false]
   have e3:decide ((a.getD k default).Cf>1152921504606846976)= !decide ((a.getD k default).Cf<=1152921504606846976):=by
    by_cases h:(a.getD k default).Cf<=1152921504606846976
    ·have:¬ (a.getD k default).Cf>1152921504606846976:=by omega
     simp only [h,this,decide_true,decide_false,Bool.not_true]
    ·have:(a.getD k default).Cf>1152921504606846976:=by omega
     simp only [h,this,decide_true,decide_false,Bool.not_false]
   rw [e1,e3];generalize decide (1<=(a.getD k default).Cf)=E1;generalize decide ((a.getD k default).Cf<=1152921504606846976)=E2;by_cases h0:k=0
   ·subst h0;simp only [decide_true,Bool.not_true,cond_false,Bool.true_or,Bool.and_true];cases okF vat (a.getD 0 default).Fs <;>cases E1 <;>cases E2 <;>try rfl
   ·have hp:IntKind.i64.wrap ((k:Int) - 1)=((k - 1:Nat):Int):=zyM (by omega) (by omega)
    have hk':k - 1<a.length:=by omega
    have hfx:zgJ (zp d) (a.getD (k - 1) default).Fs:=h.2 _ (zn hk')
    have e2:∀ z:Int,decide (z≥0)= !decide (z<0):=λz=>by
     by_cases h:z<0
     ·have:¬ z≥0:=by omega
      simp [h,this]
     ·have:z≥0:=by omega
      simp [h,this]
    simp only [h0,hp,tT,hk',zrQ hfx hd,e2,Bool.false_or];generalize decide (zbr (zby (a.getD (k - 1) default).Fs) (zby (a.getD k default).Fs)<0)=E4;cases okF vat (a.getD k default).Fs <;>cases E1 <;>cases E2 <;>cases E4 <;>try rfl
    simp only [cond_true,cond_false,Bool.not_true,isL,getR,Bool.and_self];rw [zw (by omega),decide_eq_false (show ¬ ((k - 1:Nat):Int)<0 by omega)]; rfl)
  (λH K D=>by
   show (zqz g a a.length).ev H K D=_;unfold zqz;simp only [Wy.ev_i,Wy.ev_k,tT,Nat.lt_irrefl]) n hn
theorem zbab (g:At->Bool×Bool) (a:yB) {d:Nat} (h:zp (d+1) a) (hd:d<=99) (hs:zN a<=4611686018427387904) (hg:zfs a=true->∀ t∈a,∀ f∈t.Fs,g f.At=(true,vat f.At)) (hk:∀ x,vat x=true->0<=x.Kind/\x.Kind<=4):zwB g a=(true,zxP vat a):=by
 unfold zwB zMF zxP;rw [Wy.fin_bn,zbao h (by omega) hs]
 cases hw:zfs a with
 | false=>rfl
 | true=>
  have:=zbip vat g a h hd (hg hw) hk ((a.length+Int.toNat (0:Int)+(1:Nat))+zd5 a) (by omega)
  simp only [Wy.fin_i,Wy.fin_k,Wy.fin_bn,this,cond_true];cases zdK (zDt vat a) a.length 0 <;>rfl
end
theorem zYZ {l:yA} {a:yB} (h:a∈l):zN a<=ze5 l:=by
 induction l with
 | nil=>cases h
 | cons b r ih=>
  rw [zeK];rcases qd.1 h with rfl | h
  ·omega
  ·have:=ih h; omega
theorem zXq {l:yD} {w:Wd} (h:w∈l):zN w.Ann<=zc6 l:=by
 induction l with
 | nil=>cases h
 | cons b r ih=>
  rw [zic];rcases qd.1 h with rfl | h
  ·omega
  ·have:=ih h; omega
theorem zWS {m:Nat} {a:yB} (h:zbA m a=true):isB a=isU a:=by
 cases m with
 | zero=>cases h
 | succ m=>
 match a with
 | []=>rfl
 | [t]=>
  simp only [zbA,zxP,qc] at h;have h1:=zdY.1 h.2 0 (by omega) (by simp)
  simp only [zDt,qc] at h1;have h2:=h1.2;obtain ⟨c,fs⟩:=t
  match fs with
  | []=>rfl
  | [f]=>
   have h3:=zdY.1 h2 0 (by omega) (by simp)
   simp only [zOn,qc] at h3;have h4:=zC1 h3.2;simp only [List.getD_cons_zero] at h4;show (c==1&&(f.Exp==1&&decide (2<=f.At.Kind)))=(c==1&&(f.Exp==1&&(f.At.Kind==2||f.At.Kind==3||f.At.Kind==4)))
   have e:decide (2<=f.At.Kind)=(f.At.Kind==2||f.At.Kind==3||f.At.Kind==4):=by
    rw [zf8,zf8,zf8, <- Bool.decide_or, <- Bool.decide_or];congr 1;apply propext; omega
   rw [e]
  | f::f'::r=>rfl
 | t::u::r=>rfl
theorem zbhP (g) (l:yA):zcC g l=IG (λ(_:Unit) x=>g x) (l.length+(Int.ofNat l.length).toNat +Int.toNat (0:Int)+(1:Nat)) () l:=rfl
theorem zbhX (g) (l:yD):zcY g l=IG (λ(_:Unit) x=>g x) (l.length+(Int.ofNat l.length).toNat +Int.toNat (0:Int)+(1:Nat)) () l:=rfl
theorem zMX:∀ n,
  (∀ d m a,zp d a->10*d<=n->d<=m->d<=100->zN a<=4611686018427387904->zj1 n a=(true,zbA m a))/\
  (∀ d m x,zc7 (zp d) x->10*d+9<=n->d<=m->d<=99->zfa x<=4611686018427387904->zmG n x=(true,zd3 (zbA m) x))/\
  (∀ d m a,zp d a->10*d+6<=n->d<=m->d<=99->zN a<=4611686018427387904->ze8 n a=(true, !(zbA m a&& !(a.length==0))))/\
  (∀ d m (w:Wd),zp d w.Ann->10*d+6<=n->d<=m->d<=99->zN w.Ann<=4611686018427387904->ze9 n w=(true, !(zbA m w.Ann&& !(w.Ann.length==0))))/\
  (∀ d m (l:yA),l.length<=1000000->(∀ a∈l,zp d a/\zN a<=4611686018427387904)->10*d+7<=n->d<=m->d<=99->zcF n l=(true,ixf (λa=> !(zbA m a&& !(a.length==0))) l 0))/\
  (∀ d m (l:yA),l.length<=1000000->(∀ a∈l,zp d a/\zN a<=4611686018427387904)->10*d+8<=n->d<=m->d<=99->zcj n l=(true, !zq6 (zbA m) l))/\
  (∀ d m (l:yD),l.length<=1000000->(∀ a∈l,zp d a.Ann/\zN a.Ann<=4611686018427387904)->10*d+7<=n->d<=m->d<=99->zcU n l=(true,ixf (λa=> !(zbA m a.Ann&& !(a.Ann.length==0))) l 0))/\
  (∀ d m (l:yD),l.length<=1000000->(∀ a∈l,zp d a.Ann/\zN a.Ann<=4611686018427387904)->10*d+8<=n->d<=m->d<=99->zcG n l=(true, !zCs (zbA m) l))
 | 0=>by
  refine ⟨?_, ?_, ?_, ?_, ?_, ?_, ?_, ?_⟩
  ·intro d m a h hd; have:d=0:=by omega
   subst this; exact h.elim
  all_goals (intros; omega)
 | n+1=>by
  obtain ⟨h1,h2,h3,h4,h5,h6,h7,h8⟩:=zMX n;refine ⟨?_, ?_, ?_, ?_, ?_, ?_, ?_, ?_⟩
  ·intro d m a h hd hm hd2 hs;cases d with
   | zero=>exact h.elim
   | succ d=>
    cases m with
    | zero=>omega
    | succ m=>
     rw [zPn]
     exact zbbv _ _ a h (by omega) hs λt ht f hf=>h2 d m f.At ((h.2 t ht).2 f hf) (by omega) (by omega) (by omega) (by
      have:=z30 ht hf; rw [zhb]; omega)
  ·intro d m x h hd hm hd2 hs;rw [zJs];rw [zhb] at hs
   exact z4E _ _ _ _ _ x h hd2 (h6 d m _ h.1.1 (λa ha=>⟨h.2.1 a ha,by have:=zYZ ha; omega⟩) (by omega) hm hd2)
    (h8 d m _ h.1.2.1 (λa ha=>⟨(h.2.2 a ha).2,by have:=zXq ha; omega⟩) (by omega) hm hd2)
  ·intro d m a h hd hm hd2 hs;rw [zFp];unfold zkp zvs;rw [Wy.fin_bn,h1 d m a h (by omega) hm (by omega) hs]
   simp only [cond_true,Wy.fin_i,Wy.fin_k,show (Int.ofNat a.length==(0:Int))=(a.length==0) from zrq a.length 0]
   cases zbA m a <;>simp
  ·intro d m a h hd hm hd2 hs;rw [zFv];unfold zkm zvr;rw [Wy.fin_bn,h1 d m a.Ann h (by omega) hm (by omega) hs]
   simp only [cond_true,Wy.fin_i,Wy.fin_k,show (Int.ofNat a.Ann.length==(0:Int))=(a.Ann.length==0) from zrq a.Ann.length 0]
   cases zbA m a.Ann <;>simp
  ·intro d m l hl h hd hm hd2;rw [zmJ,zbhP];exact zJB _ _ _ _ _ (by omega) (λx hx=>h3 d m x (h x hx).1 (by omega) hm hd2 (h x hx).2) (by omega)
  ·intro d m l hl h hd hm hd2;rw [zlK];unfold zcm zfi;rw [zkD (h5 d m l hl h (by omega) hm hd2)]
   simp [zq6,List.all_eq_not_any_not]
  ·intro d m l hl h hd hm hd2;rw [zo3,zbhX];exact zJB _ _ _ _ _ (by omega) (λx hx=>h4 d m x (h x hx).1 (by omega) hm hd2 (h x hx).2) (by omega)
  ·intro d m l hl h hd hm hd2;rw [zng];unfold zcJ zgk;rw [zkD (h7 d m l hl h (by omega) hm hd2)]
   simp [zCs,List.all_eq_not_any_not]
theorem z9H {a:yB} (h:zfs a=true) {t:Term} (ht:t∈a) {f:Fc} (hf:f∈t.Fs):f.At.Items.length<=1024/\f.Exp<=64/\t.Fs.length<=64:=by
 simp only [zfs,qc,List.all_eq_true] at h;have:=h.2 t ht;simp only [zBb,Bool.not_eq_true',Bool.or_eq_false_iff,decide_eq_false_iff_not,List.any_eq_false] at this;have h2:=this.2 f hf;simp at h2;omega
theorem z2K:∀ n,
  (∀ d m a,zp d a->3*d<=n->d<=m->d<=100->zN a<=4611686018427387904->zwU n a=(true,zbA m a))/\
  (∀ d m x,zc7 (zp d) x->3*d+2<=n->d<=m->d<=99->zfa x<=4611686018427387904->x.Items.length<=1024->zt9 n x=(true,zd3 (zbA m) x))
 | 0=>by
  refine ⟨?_, ?_⟩
  ·intro d m a h hd; have:d=0:=by omega
   subst this; exact h.elim
  ·intros; omega
 | n+1=>by
  obtain ⟨h1,h2⟩:=z2K n;refine ⟨?_, ?_⟩
  ·intro d m a h hd hm hd2 hs;cases d with
   | zero=>exact h.elim
   | succ d=>
    cases m with
    | zero=>omega
    | succ m=>
     rw [z0A]
     exact zbab _ _ a h (by omega) hs (λhw t ht f hf=>h2 d m f.At ((h.2 t ht).2 f hf) (by omega) (by omega) (by omega) (by
      have:=z30 ht hf; rw [zhb]; omega) (z9H hw ht hf).1) λx hx=>zC1 hx
  ·intro d m x h hd hm hd2 hs h10;rw [zSf];rw [zhb] at hs
   exact z2U _ _ x h hd2 h10 (λa ha=>zWS ha) (λa ha=>h1 d m a (h.2.1 a ha) (by omega) hm (by omega) (by have:=zYZ ha; omega))
    λa ha=>h1 d m a.Ann (h.2.2 a ha).2 (by omega) hm (by omega) (by have:=zXq ha; omega)
def zU (a:yB):Bool:=zbA 100 a
theorem z5C {d:Nat} {a:yB} (h:zp d a) (hd:d<=100) (hs:zN a<=4611686018427387904):zb9 a=(true,zU a):=(zMX 1000).1 d 100 a h (by omega) hd hd hs
theorem z2u {d:Nat} {a:yB} (h:zp d a) (hd:d<=100) (hs:zN a<=4611686018427387904):zfK a=(true,zU a):=(z2K 1000).1 d 100 a h (by omega) hd hd hs
def z91:Wy0 (yB):=.k [TO.mk 1 []]
def zVo:Bool×yB:=(z91).fin default
theorem zZv {τ:Type} [Inhabited τ] {l:List τ} {x:τ} (h:x∈l):∃ i,i<l.length/\l.getD i default=x:=by
 obtain ⟨i,hi,e⟩:=List.mem_iff_getElem.1 h;exact ⟨i,hi,by rw [List.getD_eq_getElem?_getD,List.getElem?_eq_getElem hi]; exact e⟩
theorem zGm {vat:At->Bool} {a:yB} (h:zxP vat a=true):zfs a=true:=by
 simp only [zxP,qc] at h; exact h.1
theorem zvu {vat:At->Bool} {a:yB} (h:zxP vat a=true) {t:Term} (ht:t∈a):(1<=t.Cf/\t.Cf<=1152921504606846976)/\okF vat t.Fs=true:=by
 simp only [zxP,qc] at h;obtain ⟨i,hi,rfl⟩:=zZv ht;have:=zdY.1 h.2 i (by omega) (by omega)
 simp only [zDt,qc,qe] at this;exact ⟨this.1.1,this.2⟩
theorem zpC {vat:At->Bool} {fs:yC} (h:okF vat fs=true) {f:Fc} (hf:f∈fs):(1<=f.Exp/\(f.At.Kind=3\/f.At.Kind=4->f.Exp=1))/\vat f.At=true:=by
 obtain ⟨i,hi,rfl⟩:=zZv hf;have:=zdY.1 h i (by omega) (by omega)
 simp only [zOn,qc,qe] at this;refine ⟨⟨this.1.1.1,λhk=> ?_⟩,this.2⟩
 have h2:=this.1.1.2;rcases hk with hk | hk
 ·rw [hk] at h2; simpa using h2
 ·rw [hk] at h2; simpa using h2
theorem zbf1 {b:Value} (h:bz b=true):b=⟨0,0,ByteArray.mk #[]⟩:=by
 unfold bz at h;rw [zCv] at h;simp only [qc,beq_iff_eq,qe,and_true] at h;obtain ⟨k,i,t⟩:=b;simp only at h;obtain ⟨rfl,rfl,rfl⟩:=h;rfl
theorem zvo {v:Value} (h:zqI v=true):v.Text.size<=255:=by
 simp only [zqI,Bool.or_eq_true,qc,beq_iff_eq,qe] at h;omega
theorem zR8 {x:At} (h:plA x=true):x.Func=0/\x.Items=[]/\x.Op=0/\x.Bd=⟨0,0,ByteArray.mk #[]⟩:=by
 simp only [plA,qc,beq_iff_eq] at h;exact ⟨h.1.1.1,List.length_eq_zero_iff.1 h.1.1.2,h.1.2,zbf1 h.2⟩
theorem zbfp {r:RowID} (h:rz r=true):r=⟨0,0⟩:=by
 simp only [rz,qc,beq_iff_eq,and_true] at h;obtain ⟨t,s⟩:=r;simp only at h;obtain ⟨rfl,rfl⟩:=h; rfl
inductive VA (V:yB->Bool):At->Prop
 | var (r:RowID) (h:zzc r=true):VA V ⟨0,r,[],0,[],0,⟨0,0,ByteArray.mk #[]⟩⟩
 | mon (a b:yB) (ha:V a=true) (hb:V b=true) (ha0:a≠[]) (hb0:b≠[]) (h:a≠b):VA V ⟨1,⟨0,0⟩,[a,b],0,[],0,⟨0,0,ByteArray.mk #[]⟩⟩
 | del (a:yB) (ha:V a=true) (ha0:a≠[]) (h:isC a=false) (h':isU a=false):VA V ⟨2,⟨0,0⟩,[a],0,[],0,⟨0,0,ByteArray.mk #[]⟩⟩
 | abs (a:yB) (ha:V a=true) (ha0:a≠[]) (h:zxo a=false):VA V ⟨3,⟨0,0⟩,[a],0,[],0,⟨0,0,ByteArray.mk #[]⟩⟩
 | tst (f:Int) (l:yD) (o:Int) (b:Value) (hl:l≠[]) (hi:∀ w∈l,V w.Ann=true/\w.Ann≠[]) (hs:zW3 l=true) (hf:zz6 f l o b=true):VA V ⟨4,⟨0,0⟩,[],f,l,o,b⟩
theorem zdm {V:yB->Bool} {x:At}:zd3 V x=true↔VA V x:=by
 constructor
 ·intro h;have hk:=zC1 h;obtain ⟨k,r,l,f,its,o,b⟩:=x;simp only at hk;unfold zd3 at h;simp only [qc] at h;obtain ⟨h1,h2⟩:=h
  have ha:∀ a∈l,V a=true/\a≠[]:=λa ha=>by
   have:=List.all_eq_true.1 h1 a ha;simp only [qc,Bool.not_eq_true',beq_eq_false_iff_ne] at this;exact ⟨this.1,λe=>this.2 (by rw [e]; rfl)⟩
  by_cases h0:k=0
  ·subst h0;simp only [if_true,qc,beq_iff_eq] at h2;obtain ⟨e1,e2,e3,e4⟩:=zR8 h2.1.1;simp only at e1 e2 e3 e4;subst e1 e2 e3 e4;obtain rfl:l=[]:=List.length_eq_zero_iff.1 h2.2;exact .var r h2.1.2
  simp only [h0,if_false,qc] at h2;obtain ⟨hr,h2⟩:=h2;have hr':=zbfp hr;subst hr';by_cases h0':k=1
  ·subst h0';simp only [if_true,qc] at h2;obtain ⟨e1,e2,e3,e4⟩:=zR8 h2.1;simp only at e1 e2 e3 e4;subst e1 e2 e3 e4
   match l,h2.2,ha with
   | [a,b],h3,ha=>exact .mon a b (ha a (by simp)).1 (ha b (by simp)).1 (ha a (by simp)).2 (ha b (by simp)).2 (by simpa [z3f] using h3)
  simp only [h0',if_false] at h2;by_cases h2':k=2
  ·subst h2';simp only [if_true,qc] at h2;obtain ⟨e1,e2,e3,e4⟩:=zR8 h2.1;simp only at e1 e2 e3 e4;subst e1 e2 e3 e4
   match l,h2.2,ha with
   | [a],h3,ha=>
    simp only [zFW,qc,Bool.not_eq_true'] at h3;exact .del a (ha a (by simp)).1 (ha a (by simp)).2 h3.1 h3.2
  simp only [h2',if_false] at h2;by_cases h3':k=3
  ·subst h3';simp only [if_true,qc] at h2;obtain ⟨e1,e2,e3,e4⟩:=zR8 h2.1;simp only at e1 e2 e3 e4;subst e1 e2 e3 e4
   match l,h2.2,ha with
   | [a],h3,ha=>
    simp only [zFW,Bool.not_eq_true'] at h3;exact .abs a (ha a (by simp)).1 (ha a (by simp)).2 h3
  simp only [h3',if_false] at h2;have h4':k=4:=by omega
  subst h4';simp only [if_true,qc,beq_iff_eq,qe] at h2;obtain ⟨⟨⟨⟨h3,h4⟩,h5⟩,h6⟩,h7⟩:=h2;obtain rfl:l=[]:=List.length_eq_zero_iff.1 h3
  exact .tst f its o b (λe=>by rw [e] at h4; simp at h4) (λw hw=>by
   have:=List.all_eq_true.1 h5 w hw;simp only [qc,Bool.not_eq_true',beq_eq_false_iff_ne] at this;exact ⟨this.1,λe=>this.2 (by rw [e]; rfl)⟩) h6 h7
 ·intro h
  have ne:∀ a:yB,a≠[]->(a.length==0)=false:=λa ha=>by
   rw [beq_eq_false_iff_ne]; exact λe=>ha (List.length_eq_zero_iff.1 e)
  cases h with
  | var r h=>simp [zd3,zq6,plA,bz,h]
  | mon a b ha hb ha0 hb0 h=>simp [zd3,zq6,plA,bz,rz,z3f,ha,hb,ha0,hb0,h]
  | del a ha ha0 h h'=>simp [zd3,zq6,plA,bz,rz,zFW,ha,ha0,h,h']
  | abs a ha ha0 h=>simp [zd3,zq6,plA,bz,rz,zFW,ha,ha0,h]
  | tst f l o b hl hi hs hf=>
   have h1:zCs V l=true:=List.all_eq_true.2 λw hw=>by rw [(hi w hw).1,ne _ (hi w hw).2]; rfl
   have h2:0<l.length:=by
    cases l with
    | nil=>exact absurd rfl hl
    | cons x r=>simp
   simp [zd3,zq6,rz,h1,hs,hf,h2]
theorem zwk {a:yB} (h:zfs a=true):a.length<=512/\zbo a<=8/\zN a<=4096/\∀ t∈a,t.Fs.length<=64/\∀ f∈t.Fs,f.Exp<=64/\f.At.Items.length<=1024:=by
 simp only [zfs,qc,List.all_eq_true,qe] at h;refine ⟨h.1.1.1,h.1.1.2,h.1.2,λt ht=> ?_⟩
 have:=h.2 t ht;simp only [zBb,Bool.not_eq_true',Bool.or_eq_false_iff,decide_eq_false_iff_not,List.any_eq_false] at this;refine ⟨by omega,λf hf=> ?_⟩
 have h2:=this.2 f hf;simp at h2;omega
theorem z1V {a:yB} {t:Term} (h:t∈a):zdd t.Fs<=zbo a:=by
 induction a with
 | nil=>cases h
 | cons b r ih=>
  rw [zxk];rcases qd.1 h with rfl | h
  ·omega
  ·have:=ih h; omega
theorem zPZ {l:yC} {f:Fc} (h:f∈l):znZ f.At<=zdd l:=by
 induction l with
 | nil=>cases h
 | cons b r ih=>
  rw [zja];rcases qd.1 h with rfl | h
  ·omega
  ·have:=ih h; omega
theorem zOv {l:yA} {a:yB} (h:a∈l):zbo a<=zmi l:=by
 induction l with
 | nil=>cases h
 | cons b r ih=>
  rw [zCY];rcases qd.1 h with rfl | h
  ·omega
  ·have:=ih h; omega
theorem z9r {l:yD} {w:Wd} (h:w∈l):zbo w.Ann<=zkH l:=by
 induction l with
 | nil=>cases h
 | cons b r ih=>
  rw [zBa];rcases qd.1 h with rfl | h
  ·omega
  ·have:=ih h; omega
theorem ztm {f:Int} {l:yD} {o:Int} {b:Value} (h:zz6 f l o b=true):(0<=f/\f<=3/\5<=o/\o<=10)/\zqI b=true/\∀ w∈l,zqI w.Value=true/\w.Value.Kind=b.Kind:=by
 simp only [zz6,qc,List.all_eq_true,qe] at h;obtain ⟨⟨⟨⟨⟨⟨h1,h2⟩,h3⟩,h4⟩,h5⟩,h6⟩,h7⟩:=h;refine ⟨⟨h1,h2,h3,h4⟩,h5,λw hw=> ?_⟩
 have:=h7 w hw;simp only [zJX,qc,beq_iff_eq] at this;exact this.1
theorem z1J:∀ (m:Nat) (a:yB),zbA m a=true->zp (zbo a+1) a
 | 0,a,h=>by cases h
 | m+1,a,h=>by
  have hw:=zwk (zGm h);refine ⟨by omega,λt ht=> ?_⟩
  obtain ⟨_,hok⟩:=zvu h ht;obtain ⟨h1,h2⟩:=hw.2.2.2 t ht;refine ⟨by omega,λf hf=> ?_⟩
  have hv:=zdm.1 (zpC hok hf).2;have hn:znZ f.At<=zbo a:=Nat.le_trans (zPZ hf) (z1V ht);have h3:=(h2 f hf).2;generalize f.At=x at hv hn h3;rw [zC3] at hn;have ih:∀ b,zbA m b=true->zbo b+1<=zbo a->zp (zbo a) b:=λb hb hl=>(z1J m b hb).mono hl
  cases hv with
  | var r h=>exact ⟨⟨by simp,by simp,by show (ByteArray.mk #[]).size<=_; decide⟩,λa ha=>(by cases ha),λw hw=>(by cases hw)⟩
  | mon b c hb hc _ _ _=>
   simp only at hn;refine ⟨⟨by simp,by simp,by show (ByteArray.mk #[]).size<=_; decide⟩,λy hy=> ?_,λw hw=>(by cases hw)⟩
   have:=zOv hy;simp only at this;simp only [qd,List.not_mem_nil,or_false] at hy;rcases hy with rfl | rfl
   ·exact ih _ hb (by simp at hn; omega)
   ·exact ih _ hc (by simp at hn; omega)
  | del b hb _ _ _=>
   refine ⟨⟨by simp,by simp,by show (ByteArray.mk #[]).size<=_; decide⟩,λy hy=> ?_,λw hw=>(by cases hw)⟩
   have:=zOv hy;simp only at this;simp only [qd,List.not_mem_nil,or_false] at hy;subst hy;exact ih _ hb (by simp at hn; omega)
  | abs b hb _ _=>
   refine ⟨⟨by simp,by simp,by show (ByteArray.mk #[]).size<=_; decide⟩,λy hy=> ?_,λw hw=>(by cases hw)⟩
   have:=zOv hy;simp only at this;simp only [qd,List.not_mem_nil,or_false] at hy;subst hy;exact ih _ hb (by simp at hn; omega)
  | tst fn l o b hl hi hs hf=>
   obtain ⟨_,hb,hit⟩:=ztm hf;refine ⟨⟨by simp,by simp only at h3 ⊢; omega,by have:=zvo hb; simp only; omega⟩,λy hy=>(by cases hy),λw hw=>⟨by have:=zvo (hit w hw).1; omega, ?_⟩⟩
   have:=z9r hw;simp only at this;exact ih _ (hi w hw).1 (by simp at hn; omega)
theorem ze0 {m:Nat} {a:yB} (h:zbA m a=true):zp 9 a/\zN a<=4096/\a.length<=512:=by
 cases m with
 | zero=>cases h
 | succ m=>
 have hw:=zwk (zGm h);exact ⟨(z1J _ a h).mono (by omega),hw.2.2.1,hw.1⟩
theorem z5y {d m m':Nat} {a:yB} (h:zp d a) (hd:d<=100) (h1:d<=m) (h2:d<=m') (hs:zN a<=4611686018427387904):zbA m a=zbA m' a:=by
 have e1:=(zMX 1000).1 d m a h (by omega) h1 hd hs
 have e2:=(zMX 1000).1 d m' a h (by omega) h2 hd hs
 rw [e1] at e2;exact (Prod.mk.injEq _ _ _ _ ▸ e2).2
theorem z9j {m:Nat} {a:yB} (h:zbA m a=true) (hm:9<=m):zU a=true:=by
 obtain ⟨h1,h2,h3⟩:=ze0 h;rw [<- h]; exact z5y h1 (by omega) (by omega) hm (by omega)
theorem zZ6 {m:Nat} {a:yB} (h:zU a=true) (hm:9<=m):zbA m a=true:=by
 obtain ⟨h1,h2,h3⟩:=ze0 h;rw [<- h]; exact z5y h1 (by omega) hm (by omega) (by omega)
theorem VA.imp {V V':yB->Bool} (hV:∀ a,V a=true->V' a=true) {x:At} (h:VA V x):VA V' x:=by
 cases h with
 | var r h=>exact .var r h
 | mon a b ha hb ha0 hb0 h=>exact .mon a b (hV a ha) (hV b hb) ha0 hb0 h
 | del a ha ha0 h h'=>exact .del a (hV a ha) ha0 h h'
 | abs a ha ha0 h=>exact .abs a (hV a ha) ha0 h
 | tst f l o b hl hi hs hf=>exact .tst f l o b hl (λw hw=>⟨hV _ (hi w hw).1,(hi w hw).2⟩) hs hf
def zpg (x:At):Bool:=zd3 zU x
theorem zbcj {m:Nat} (hm:9<=m):zd3 (zbA m)=zpg:=by
 funext x
 rw [Bool.eq_iff_iff];unfold zpg;rw [zdm,zdm];exact ⟨VA.imp λa h=>z9j h hm,VA.imp λa h=>zZ6 h hm⟩
theorem z14 (a:yB):zU a=zxP zpg a:=by
 show zxP (zd3 (zbA 99)) a=_;rw [zbcj (by omega)]
theorem z0k {τ:Type} [Inhabited τ] {l:List τ} {i:Nat} (h:i<l.length):l.set i (l.getD i default)=l:=by
 rw [List.getD_eq_getElem?_getD,List.getElem?_eq_getElem h]; simp
section
variable (g:yB->Bool×yB) (gx:At->Bool×At)
theorem zbiD (t8:yB) (t9 t10:Int) (out:yB) (t:Term) (l:yC) (hl:l.length<=1000000) (hg:∀ f∈l,gx f.At=(true,f.At)) (n:Nat) (hn:l.length<n):
  zAT gx n t8 t9 t10 l.length 0 out t l=(true,(t8,t9,t10,out,t,l)):=by
 have:=zcs (W:=ztE gx) (z:=default) l.length (λi=>((),(),(),t8,t9,t10,(l.length:Int),(i:Int),())) (λ_=>(out,t,l,())) (λ_=>true) default (t8,t9,t10,out,t,l)
  (λi hi H K D=>by
   show (zjB gx t8 t9 t10 l.length i out t l).ev H K D=_;unfold zjB;simp only [At.eta,Wy.ev_i,Wy.ev_k,Wy.ev_h,Wy.ev_bn,Wy.ev_d,tT,hi,hg _ (zn hi)];rw [zw (by omega)]
   have:(l.set i (⟨(l.getD i default).At,(l.getD i default).Exp⟩:Fc))=l:=z0k hi;rw [this])
  (λH K D=>by
   show (zjB gx t8 t9 t10 l.length l.length out t l).ev H K D=_;unfold zjB;simp only [Wy.ev_i,Wy.ev_k,tT,Nat.lt_irrefl]) n hn
 rw [show zdK (λ_=>true) l.length 0=true from zdY.2 λ_ _ _=>rfl] at this
 exact this
theorem zbiv (a:yB) (hl:a.length<=1000000) (hg:∀ t∈a,t.Fs.length<=1000000/\∀ f∈t.Fs,gx f.At=(true,f.At)) (n:Nat) (hn:a.length<n):
  zAI gx n a a.length 0 []=(true,a):=by
 have hreach:zA=70368744177664:=rfl
 have:=zcs (W:=ztG gx) (z:=default) a.length (λi=>((),a,(a.length:Int),(i:Int),())) (λi=>(a.take i,())) (λ_=>true) default a
  (λi hi H K D=>by
   show (zju gx a a.length i (a.take i)).ev H K D=_;unfold zju ze6;obtain ⟨h1,h2⟩:=hg _ (zn hi);have hb:decide ((a.getD i default).Fs.length*128<=zA)=true:=by simp only [qe]; omega
   simp only [Wy.ev_i,Wy.ev_k,Wy.ev_h,Wy.ev_bn,Wy.ev_d,tT,hi,hb];rw [zbiD gx a a.length i (a.take i) _ _ h1 h2 _ (by omega)]
   have hb2:decide (((a.take i).length+1)*32<=zA)=true:=by simp only [qe,List.length_take]; omega
   simp only [cond_true,List.length_singleton,hb2];rw [zw (by omega),zj7 hi])
  (λH K D=>by
   show (zju gx a a.length a.length (a.take a.length)).ev H K D=_;unfold zju;simp only [Wy.ev_i,Wy.ev_k,tT,Nat.lt_irrefl,List.take_length]) n hn
 rw [show zdK (λ_=>true) a.length 0=true from zdY.2 λ_ _ _=>rfl] at this
 exact this
end
def txV (v:Value):List UInt8:=if v.Kind=0 then ziC v.Int else if v.Kind=1 then 39::(v.Text.data.toList.flatMap esc++[39]) else if v.Int=1 then [84,82,85,69] else [70,65,76,83,69]
def txR (r:RowID):List UInt8:=116::(ziC r.Table++46::ziC r.Seq)
def fnT (f:Int):List UInt8:=if f=0 then [67,79,85,78,84] else if f=1 then [83,85,77] else if f=2 then [77,73,78] else [77,65,88]
def opT (o:Int):List UInt8:=if o=5 then [61] else if o=6 then [60,62] else if o=7 then [60] else if o=8 then [60,61] else if o=9 then [62] else [62,61]
def zR2 (ts:List (List UInt8)):List UInt8:=if ts=[] then [48] else zeE ts [32,43,32]
def zVm (c:Int) (fs:List (List UInt8)):List UInt8:=if fs=[] then ziC c else if c=1 then zeE fs [42] else ziC c++42::zeE fs [42]
def zMH (x:List UInt8) (e:Int):List UInt8:=if e=1 then x else x++94::ziC e
def zdi (k:Int) (r:RowID) (xs:List (List UInt8)) (f:Int) (is:List (List UInt8)) (o:Int) (b:Value):List UInt8:=
 if k=0 then txR r
 else if k=1 then [109,111,110,117,115,91]++(xs.getD 0 []++([44,32]++(xs.getD 1 []++[93])))
 else if k=2 then [100,101,108,116,97,91]++(xs.getD 0 []++[93])
 else if k=3 then [97,98,115,101,110,116,91]++(xs.getD 0 []++[93])
 else [116,101,115,116,91]++(fnT f++([123]++(zeE is [59,32]++([125,32]++(opT o++([32]++(txV b++[93])))))))
mutual
def txA:At->List UInt8
 | ⟨k,r,a,f,i,o,b⟩=>zdi k r (z3v a) f (z4l i) o b
def zK8:yC->List (List UInt8)
 | []=>[]
 | ⟨x,e⟩::l=>zMH (txA x) e::zK8 l
def zRm:yB->List (List UInt8)
 | []=>[]
 | ⟨c,fs⟩::l=>zVm c (zK8 fs)::zRm l
def z3v:yA->List (List UInt8)
 | []=>[]
 | a::l=>zR2 (zRm a)::z3v l
def z4l:yD->List (List UInt8)
 | []=>[]
 | ⟨v,a⟩::l=>(txV v++([58,32]++zR2 (zRm a)))::z4l l
end
def txF (f:Fc):List UInt8:=zMH (txA f.At) f.Exp
def txT (t:Term):List UInt8:=zVm t.Cf (zK8 t.Fs)
def txN (a:yB):List UInt8:=zR2 (zRm a)
def txI (w:Wd):List UInt8:=txV w.Value++([58,32]++txN w.Ann)
theorem zyO:∀ l,zK8 l=l.map txF
 | []=>by rw [zK8]; rfl
 | x::r=>by rw [zK8,zyO r]; rfl
theorem zRj:∀ l,zRm l=l.map txT
 | []=>by rw [zRm]; rfl
 | x::r=>by rw [zRm,zRj r]; rfl
theorem zmw:∀ l,z3v l=l.map txN
 | []=>by rw [z3v]; rfl
 | x::r=>by rw [z3v,zmw r]; rfl
theorem zLI:∀ l,z4l l=l.map txI
 | []=>by rw [z4l]; rfl
 | x::r=>by rw [z4l,zLI r]; rfl
theorem zbhD (x:At):txA x=zdi x.Kind x.Row (z3v x.Ag) x.Func (z4l x.Items) x.Op x.Bd:=by cases x; rw [txA]
def txL (l:yC):List UInt8:=zeE (zK8 l) [42]
theorem zO4 {v:Value} (h:zqI v=true):(txV v).length<=512:=by
 have ht:=zvo h;unfold txV;have h1:=zpZ v.Int;have h2:=z3x v.Text.data.toList;have h3:v.Text.data.toList.length=v.Text.size:=by rw [Array.length_toList]; rfl
 split
 ·omega
 ·split
  ·simp only [qf,qg,List.length_nil]; omega
  ·split <;>simp
theorem zbf8 (r:RowID):(txR r).length<=44:=by
 have h1:=zpZ r.Table;have h2:=zpZ r.Seq;simp only [txR,qf,qg]; omega
theorem zbap (f:Int):(fnT f).length<=5:=by unfold fnT; (repeat' split) <;>simp
theorem zba5 (f:Int):(opT f).length<=2:=by unfold opT; (repeat' split) <;>simp
theorem zQK {α:Type} (t:α->List UInt8) (m:α->Nat) (s:List UInt8):∀ l:List α,(∀ x∈l,(t x).length+s.length<=m x)->(zeE (l.map t) s).length<=(l.map m).sum
 | [],_=>by simp [zeE]
 | [x],h=>by
  have:=h x (by simp)
  simp only [List.map,zeE,List.sum_cons,List.sum_nil]; omega
 | x::y::r,h=>by
  have h1:=h x (by simp)
  have h2:=zQK t m s (y::r) λz hz=>h z (List.mem_cons_of_mem _ hz)
  simp only [List.map,zeE,qg,List.sum_cons] at h2 ⊢;omega
theorem zZD:∀ l:yC,(l.map λf=>1000+1000*zfa f.At).sum=1000*(l.length+zbI l)
 | []=>by rw [ziD]; rfl
 | f::r=>by rw [List.map_cons,List.sum_cons,zZD r,zc2,qf]; omega
theorem z5X:∀ l:yB,(l.map λt=>1000+1000*(t.Fs.length+zbI t.Fs)).sum=1000*zN l
 | []=>by rw [zwf]; rfl
 | f::r=>by rw [List.map_cons,List.sum_cons,z5X r,zfQ]; omega
theorem z47:∀ l:yD,(l.map λt=>1000+1000*zN t.Ann).sum=1000*zc6 l
 | []=>by rw [zfG]; rfl
 | f::r=>by rw [List.map_cons,List.sum_cons,z47 r,zic]; omega
theorem zbfh {x:At} {e:Int} (h:(txA x).length<=700+1000*zfa x):(zMH (txA x) e).length+1<=1000+1000*zfa x:=by
 have:=zpZ e;unfold zMH;split
 ·omega
 ·simp only [qg,qf]; omega
theorem z9w {l:yC} (h:∀ f∈l,(txA f.At).length<=700+1000*zfa f.At):(txL l).length<=1000*(l.length+zbI l):=by
 unfold txL;rw [zyO, <- zZD];exact zQK txF (λf=>1000+1000*zfa f.At) [42] l λf hf=>zbfh (h f hf)
theorem zXB:∀ (m:Nat),(∀ a,zbA m a=true->(txN a).length<=1+1000*zN a)/\(∀ x,zd3 (zbA m) x=true->(txA x).length<=700+1000*zfa x)
 | m=>by
  have hA:∀ (V:yB->Bool),(∀ a,V a=true->(txN a).length<=1+1000*zN a)->∀ x,zd3 V x=true->(txA x).length<=700+1000*zfa x:=by
   intro V hV x hx;rw [zhb];cases zdm.1 hx with
   | var r h=>
    rw [txA]; have:=zbf8 r;simp only [zdi,if_true]; omega
   | mon a b ha hb _ _ _=>
    have h1:=hV a ha; have h2:=hV b hb;rw [txA,zmw];simp only [zdi,zeK,zgL,zfG,List.map,List.getD_cons_zero,List.getD_cons_succ,qg,qf,List.length_nil];simp only [show ¬ (1:Int)=0 by decide,if_false,if_true,qg,qf,List.length_nil]
    omega
   | del a ha _ _ _=>
    have h1:=hV a ha;rw [txA,zmw];simp only [zdi,zeK,zgL,zfG,List.map,List.getD_cons_zero];simp only [show ¬ (2:Int)=0 by decide,show ¬ (2:Int)=1 by decide,if_false,if_true,qg,qf,List.length_nil]
    omega
   | abs a ha _ _=>
    have h1:=hV a ha;rw [txA,zmw];simp only [zdi,zeK,zgL,zfG,List.map,List.getD_cons_zero];simp only [show ¬ (3:Int)=0 by decide,show ¬ (3:Int)=1 by decide,show ¬ (3:Int)=2 by decide,if_false,if_true,qg,qf,List.length_nil]
    omega
   | tst f l o b hl hi hs hf=>
    obtain ⟨_,hb,hit⟩:=ztm hf;have h1:=zbap f; have h2:=zba5 o; have h3:=zO4 hb
    have h4:(zeE (l.map txI) [59,32]).length<=1000*zc6 l:=by
     rw [<- z47];refine zQK txI (λw=>1000+1000*zN w.Ann) [59,32] l λw hw=> ?_
     have h5:=hV _ (hi w hw).1; have h6:=zO4 (hit w hw).1;simp only [txI,qg,qf,List.length_nil]; omega
    rw [txA,zLI];simp only [zdi,zgL];simp only [show ¬ (4:Int)=0 by decide,show ¬ (4:Int)=1 by decide,show ¬ (4:Int)=2 by decide,show ¬ (4:Int)=3 by decide,if_false,qg,qf,List.length_nil]
    omega
  have hN:∀ a,zbA m a=true->(txN a).length<=1+1000*zN a:=by
   induction m with
   | zero=>intro a h; cases h
   | succ m ih=>
    intro a h;unfold txN zR2;split
    ·simp
    ·rw [zRj, <- z5X];refine Nat.le_trans (zQK txT (λt=>1000+1000*(t.Fs.length+zbI t.Fs)) [32,43,32] a λt ht=> ?_) (Nat.le_add_left _ _)
     have hok:=(zvu h ht).2;have h5:=z9w (l:=t.Fs) λf hf=>hA _ ih _ (zpC hok hf).2
     have h6:=zpZ t.Cf;have e:(zeE (zK8 t.Fs) [42]).length=(txL t.Fs).length:=rfl;unfold txT zVm;simp only [qf,List.length_nil];split
     ·omega
     ·split
      ·omega
      ·simp only [qg,qf]; omega
  exact ⟨hN,hA _ hN⟩
theorem zml {n:Int} (h:wf3 n): -9223372036854775808<=n/\n<=9223372036854775807:=by
 have h:(Lit.int .i64 n).wf=true:=h;have:IntKind.i64.min<=n/\n<=IntKind.i64.max:=by simpa [Lit.wf] using h
 exact ⟨this.1,this.2⟩
def rng (n:Int):Prop:= -9223372036854775808<=n/\n<=9223372036854775807
instance (n:Int):Decidable (rng n):=by unfold rng; infer_instance
theorem zZ7 {n:Int} (h:rng n):strconv_Itoa n=(true,bs (ziC n)):=by
 unfold strconv_Itoa zRZ zNi;rw [decide_eq_true h.1,decide_eq_true h.2]; rfl
theorem zbaQ {n:Int} (h:rng n):ziX n 10=(true,bs (ziC n)):=by
 unfold ziX zv4 zNi;rw [decide_eq_true h.1,decide_eq_true h.2]; rfl
theorem okS (n m:Nat) (h:n+m<=9223372036854775807):decide (n+m<=9223372036854775807)=true:=decide_eq_true h
theorem zbdv {r:RowID} (h:zzc r=true) (h1:rng r.Table) (h2:rng r.Seq):zwH r=(true,bs (txR r)):=by
 unfold zwH zM2 txR;have l1:=zpZ r.Table;have l2:=zpZ r.Seq;rw [show ByteArray.mk #[(116:UInt8)]=bs [116] from rfl,show ByteArray.mk #[(46:UInt8)]=bs [46] from rfl]
 simp only [Wy.fin_bn,Wy.fin_i,Wy.fin_k,zDS,h,zZ7 h1,zZ7 h2,cond_true,cond_false,Bool.not_true,zEc,zuW,qg,qf,List.length_nil];rw [okS _ _ (by omega),okS _ _ (by omega),okS _ _ (by omega)]
 simp
theorem z8w {v:Value} (h:zqI v=true) (hr:rng v.Int):zrf v=(true,bs (txV v)):=by
 unfold zrf zQw txV strings_ReplaceAll;have ht:=zvo h;rw [show ByteArray.mk #[(39:UInt8)]=bs [39] from rfl,show ByteArray.mk #[(39:UInt8),(39:UInt8)]=bs [39,39] from rfl]
 simp only [Wy.fin_bn,Wy.fin_i,Wy.fin_k,zzx,h,zbaQ hr,z3Q _ ht,cond_true,cond_false,Bool.not_true,zEc,zuW,qg,qf,List.length_nil];have h2:=z3x v.Text.data.toList;have h3:v.Text.data.toList.length=v.Text.size:=by rw [Array.length_toList]; rfl
 rw [okS _ _ (by omega),okS _ _ (by omega)]
 by_cases k0:v.Kind=0
 ·simp [k0]
 by_cases k1:v.Kind=1
 ·simp [k1]
 simp only [zf8,k0,k1,decide_false,cond_false,if_false];by_cases i1:v.Int=1
 ·simp only [i1,decide_true,cond_true,if_true]; rfl
 ·simp only [i1,decide_false,cond_false,if_false]; rfl
theorem zbgg {f:Int} (h0:0<=f) (h3:f<=3):(decide ((0:Int)<=f)&&decide (f<Int.ofNat zb4.snd.length))=true/\zb4.snd.getD f.toNat default=bs (fnT f):=by
 have hc:f=0\/f=1\/f=2\/f=3:=by omega
 rcases hc with rfl | rfl | rfl | rfl <;>exact ⟨rfl,rfl⟩
theorem zbfY {o:Int} (h0:5<=o) (h3:o<=10):(decide ((0:Int)<=IntKind.i64.wrap (o - 5))&&decide (IntKind.i64.wrap (o - 5)<Int.ofNat zdA.snd.length))=true/\zdA.snd.getD (IntKind.i64.wrap (o - 5)).toNat default=bs (opT o):=by
 have hc:o=5\/o=6\/o=7\/o=8\/o=9\/o=10:=by omega
 rcases hc with rfl | rfl | rfl | rfl | rfl | rfl <;>exact ⟨rfl,rfl⟩
theorem zZz {m:Nat} {x:At} (h:zd3 (zbA m) x=true) (hi:x.Items.length<=1024):zfa x<=4195328:=by
 rw [zhb];cases zdm.1 h with
 | var r h=>rw [zgL,zfG]; omega
 | mon a b ha hb _ _ _=>
  have h1:=(ze0 ha).2.1; have h2:=(ze0 hb).2.1;simp only [zeK,zgL,zfG]; omega
 | del a ha _ _ _=>
  have h1:=(ze0 ha).2.1;simp only [zeK,zgL,zfG]; omega
 | abs a ha _ _=>
  have h1:=(ze0 ha).2.1;simp only [zeK,zgL,zfG]; omega
 | tst f l o b hl hv hs hf=>
  have h1:∀ l:yD,(∀ w∈l,zN w.Ann<=4096)->zc6 l<=l.length*4097:=λl=>by
   induction l with
   | nil=>intro _; rw [zfG]; omega
   | cons w r ih=>
    intro h;have:=h w (by simp)
    have:=ih λw hw=>h w (by simp [hw])
    rw [zic,qf,Nat.add_mul]; omega
  have:=h1 l λw hw=>(ze0 (hv w hw).1).2.1
  have:=Nat.mul_le_mul hi (Nat.le_refl 4097);simp only [zgL] at this ⊢; omega
section
variable (gA:At->Bool×ByteArray) (gF:yC->Bool×ByteArray) (gT:yB->Bool×ByteArray)
theorem zbgm (l:yC) (hl:l.length<=1000) (hg:∀ f∈l,gA f.At=(true,bs (txA f.At))/\(txA f.At).length<=4200000000/\rng f.Exp):zgw gA l=(true,bs (txL l)):=by
 have hreach:zA=70368744177664:=rfl;unfold zgw zuk
 have:=zcs (W:=zlG gA) (z:=default) l.length (λi=>((),l,(l.length:Int),(i:Int),())) (λi=>((l.take i).map λf=>bs (txF f),())) (λ_=>true) default (l.map λf=>bs (txF f))
  (λi hi H K D=>by
   show (zfc gA l l.length i ((l.take i).map λf=>bs (txF f))).ev H K D=_
   unfold zfc;obtain ⟨h1,h2,h3⟩:=hg _ (zn hi);have l1:=zpZ (l.getD i default).Exp;rw [show ByteArray.mk #[(94:UInt8)]=bs [94] from rfl]
   simp only [At.eta,Wy.ev_i,Wy.ev_k,Wy.ev_h,Wy.ev_bn,Wy.ev_d,tT,hi,h1,zZ7 h3,zEc,zuW,qg,qf,List.length_nil];rw [okS _ _ (by omega),okS _ _ (by omega),zw (by omega),zj7 hi,List.map_append]
   have hb:decide ((((l.take i).map λf=>bs (txF f)).length+1)*16<=zA)=true:=by simp only [qe,List.length_map,List.length_take]; omega
   generalize ((l.take i).map λf=>bs (txF f))=out at hb ⊢
   have hb':decide ((out.length+(0+1))*16<=zA)=true:=hb;simp only [hb,hb',cond_true,List.map_cons,List.map_nil,txF,zMH,zpE];by_cases he:(l.getD i default).Exp=1
   ·simp only [he,decide_true,Bool.not_true,cond_false,if_true]
   ·simp only [he,decide_false,Bool.not_false,cond_true,if_false,List.singleton_append])
  (λH K D=>by
   show (zfc gA l l.length l.length ((l.take l.length).map λf=>bs (txF f))).ev H K D=_
   unfold zfc;simp only [Wy.ev_i,Wy.ev_k,tT,Nat.lt_irrefl,List.take_length]) (l.length+(Int.ofNat l.length).toNat +Int.toNat (0:Int)+(0:Nat)+(1:Nat)) (by omega)
 rw [show zdK (λ_=>true) l.length 0=true from zdY.2 λ_ _ _=>rfl] at this
 have e:ztU gA (l.length+(Int.ofNat l.length).toNat +Int.toNat (0:Int)+(0:Nat)+(1:Nat)) l (Int.ofNat l.length) (0:Int) []=(true,(l.map txF).map bs):=by rw [List.map_map]; exact this
 have hlen:(zeE (l.map txF) [42]).length<=140737488355328:=by
  refine Nat.le_trans (zWO (B:=4200001000) (l.map txF) [42] λx hx=> ?_) (by
   rw [List.length_map]; have:=Nat.mul_le_mul hl (Nat.le_refl 4200001000); omega)
  obtain ⟨f,hf,rfl⟩:=List.mem_map.1 hx;have:=(hg f hf).2.1;have:=zpZ f.Exp;unfold txF zMH;split
  ·simp only [qf,List.length_nil]; omega
  ·simp only [qg,qf,List.length_nil]; omega
 rw [Wy.fin_bn,e,show ByteArray.mk #[(42:UInt8)]=bs [42] from rfl]
 unfold strings_Join;simp only [cond_true,Wy.fin_bn,Wy.fin_k,z0s _ _ (by rw [List.length_map]; omega) hlen]
 unfold txL;rw [zyO]
theorem zbhv (a:yB) (hl:a.length<=1000) (hlen:(txN a).length<=140737488355328) (hg:∀ t∈a,gF t.Fs=(true,bs (txL t.Fs))/\(txL t.Fs).length<=4200000000/\rng t.Cf):zo1 gF a=(true,bs (txN a)):=by
 have hreach:zA=70368744177664:=rfl;unfold zo1 zER;by_cases h0:a=[]
 ·subst h0;have e:txN []=[48]:=by unfold txN; rw [zRm]; rfl
  rw [e]; rfl
 have hne:(Int.ofNat a.length==(0:Int))=false:=by
  rw [beq_eq_false_iff_ne]; intro e;have:(a.length:Int)=0:=e;exact h0 (List.length_eq_zero_iff.1 (by omega))
 have:=zcs (W:=zwb gF) (z:=default) a.length (λi=>((),a,(a.length:Int),(i:Int),())) (λi=>((a.take i).map λf=>bs (txT f),())) (λ_=>true) default (a.map λf=>bs (txT f))
  (λi hi H K D=>by
   show (zk4 gF a a.length i ((a.take i).map λf=>bs (txT f))).ev H K D=_
   unfold zk4;obtain ⟨h1,h2,h3⟩:=hg _ (zn hi);have l1:=zpZ (a.getD i default).Cf;rw [show ByteArray.mk #[(42:UInt8)]=bs [42] from rfl]
   have hL:decide ((i:Int)<(a.length:Int))=true:=by simp [hi]
   have hL':decide ((i:Int)<Int.ofNat a.length)=true:=hL;simp only [Wy.ev_i,Wy.ev_k,Wy.ev_h,Wy.ev_bn,Wy.ev_d,hL,hL',zep,Bool.and_self,cond_true,Int.toNat_natCast,h1,zbaQ h3,zEc,zuW,qg,qf,List.length_nil,show (Int.ofNat (a.getD i default).Fs.length==(0:Int))=((a.getD i default).Fs.length==0) from zrq _ 0]
   rw [okS _ _ (by omega),okS _ _ (by omega),zw (by omega),zj7 hi,List.map_append]
   have hb:decide ((((a.take i).map λf=>bs (txT f)).length+1)*16<=zA)=true:=by simp only [qe,List.length_map,List.length_take]; omega
   generalize ((a.take i).map λf=>bs (txT f))=out at hb ⊢
   have hb':decide ((out.length+(0+1))*16<=zA)=true:=hb;simp only [hb,hb',cond_true,List.map_cons,List.map_nil,txT,zVm,zf8]
   have e0:(zK8 (a.getD i default).Fs=[])↔(a.getD i default).Fs.length=0:=by
    rw [zyO,List.map_eq_nil_iff,List.length_eq_zero_iff]
   by_cases hf:(a.getD i default).Fs.length=0
   ·rw [if_pos (e0.2 hf),hf]; rfl
   ·rw [if_neg (λe=>hf (e0.1 e)),z0D,decide_eq_false hf]
    by_cases he:(a.getD i default).Cf=1
    ·simp only [he,decide_true,cond_true,cond_false,if_true,txL]
    ·simp only [he,decide_false,cond_false,if_false,txL,List.append_assoc,List.singleton_append])
  (λH K D=>by
   show (zk4 gF a a.length a.length ((a.take a.length).map λf=>bs (txT f))).ev H K D=_
   unfold zk4;simp only [Wy.ev_i,Wy.ev_k,tT,Nat.lt_irrefl,List.take_length]) (a.length+(Int.ofNat a.length).toNat +Int.toNat (0:Int)+(0:Nat)+(1:Nat)) (by omega)
 rw [show zdK (λ_=>true) a.length 0=true from zdY.2 λ_ _ _=>rfl] at this
 have e:zDL gF (a.length+(Int.ofNat a.length).toNat +Int.toNat (0:Int)+(0:Nat)+(1:Nat)) a (Int.ofNat a.length) (0:Int) []=(true,(a.map txT).map bs):=by rw [List.map_map]; exact this
 have ex:txN a=zeE (a.map txT) [32,43,32]:=by
  unfold txN zR2;rw [zRj,if_neg (by simpa using h0)]
 rw [ex] at hlen ⊢;rw [Wy.fin_i,hne,cond_false,Wy.fin_bn,e,show ByteArray.mk #[(32:UInt8),(43:UInt8),(32:UInt8)]=bs [32,43,32] from rfl]
 unfold strings_Join;simp only [cond_true,Wy.fin_bn,Wy.fin_k,z0s _ _ (by rw [List.length_map]; omega) hlen]
theorem zbgO {V:yB->Bool} (x:At) (hx:zd3 V x=true) (hw:zgB x) (hi:x.Items.length<=1024) (hg:∀ a,(a∈x.Ag\/∃ w∈x.Items,a=w.Ann)->gT a=(true,bs (txN a))/\(txN a).length<=4200000000):ziM gT x=(true,bs (txA x)):=by
 have hreach:zA=70368744177664:=rfl;have W:=zsD hw;unfold ziM zx1;rw [zbhD];cases zdm.1 hx with
 | var r h=>
  have hr:=W.2.2.2.2.1;simp only [Wy.fin_bn,Wy.fin_i,Wy.fin_k,zbdv h (zml hr.1) (zml hr.2)];simp [zdi]
 | mon a b ha hb _ _ _=>
  obtain ⟨g1,l1⟩:=hg a (.inl (by simp))
  obtain ⟨g2,l2⟩:=hg b (.inl (by simp))
  rw [zmw];simp only [List.map,zdi,List.getD_cons_zero,List.getD_cons_succ,show ¬ (1:Int)=0 by decide,if_false,if_true]
  rw [show ByteArray.mk #[(109:UInt8),(111:UInt8),(110:UInt8),(117:UInt8),(115:UInt8),(91:UInt8)]=bs [109,111,110,117,115,91] from rfl,show ByteArray.mk #[(44:UInt8),(32:UInt8)]=bs [44,32] from rfl,show ByteArray.mk #[(93:UInt8)]=bs [93] from rfl]
  simp only [cond_true,cond_false,Wy.fin_i,Wy.fin_bn,Wy.fin_k,show ((1:Int)==0)=false from rfl,show ((1:Int)==1)=true from rfl,show (decide ((0:Int)<=0)&&decide ((0:Int)<Int.ofNat [a,b].length))=true from rfl,show (decide ((0:Int)<=1)&&decide ((1:Int)<Int.ofNat [a,b].length))=true from rfl,show [a,b].getD (Int.toNat 0) default=a from rfl,show [a,b].getD (Int.toNat 1) default=b from rfl,g1,g2,zEc,zuW,List.length_append,List.length_cons,List.length_nil]
  rw [okS _ _ (by omega),okS _ _ (by omega),okS _ _ (by omega),okS _ _ (by omega)]
  simp
 | del a ha _ _ _=>
  obtain ⟨g1,l1⟩:=hg a (.inl (by simp))
  rw [zmw];simp only [List.map,zdi,List.getD_cons_zero,show ¬ (2:Int)=0 by decide,show ¬ (2:Int)=1 by decide,if_false,if_true]
  rw [show ByteArray.mk #[(100:UInt8),(101:UInt8),(108:UInt8),(116:UInt8),(97:UInt8),(91:UInt8)]=bs [100,101,108,116,97,91] from rfl,show ByteArray.mk #[(93:UInt8)]=bs [93] from rfl]
  simp only [cond_true,cond_false,Wy.fin_i,Wy.fin_bn,Wy.fin_k,show ((2:Int)==0)=false from rfl,show ((2:Int)==1)=false from rfl,show ((2:Int)==2)=true from rfl,show (decide ((0:Int)<=0)&&decide ((0:Int)<Int.ofNat [a].length))=true from rfl,show [a].getD (Int.toNat 0) default=a from rfl,g1,zEc,zuW,List.length_append,List.length_cons,List.length_nil]
  rw [okS _ _ (by omega),okS _ _ (by omega)]
  simp
 | abs a ha _ _=>
  obtain ⟨g1,l1⟩:=hg a (.inl (by simp))
  rw [zmw];simp only [List.map,zdi,List.getD_cons_zero,show ¬ (3:Int)=0 by decide,show ¬ (3:Int)=1 by decide,show ¬ (3:Int)=2 by decide,if_false,if_true]
  rw [show ByteArray.mk #[(97:UInt8),(98:UInt8),(115:UInt8),(101:UInt8),(110:UInt8),(116:UInt8),(91:UInt8)]=bs [97,98,115,101,110,116,91] from rfl,show ByteArray.mk #[(93:UInt8)]=bs [93] from rfl]
  simp only [cond_true,cond_false,Wy.fin_i,Wy.fin_bn,Wy.fin_k,show ((3:Int)==0)=false from rfl,show ((3:Int)==1)=false from rfl,show ((3:Int)==2)=false from rfl,show ((3:Int)==3)=true from rfl,show (decide ((0:Int)<=0)&&decide ((0:Int)<Int.ofNat [a].length))=true from rfl,show [a].getD (Int.toNat 0) default=a from rfl,g1,zEc,zuW,List.length_append,List.length_cons,List.length_nil]
  rw [okS _ _ (by omega),okS _ _ (by omega)]
  simp
 | tst f l o b hl hv hs hf=>
  obtain ⟨⟨f0,f3,o5,o10⟩,hb,hit⟩:=ztm hf;have hwl:=zjz W.2.1.1;have hwb:rng b.Int:=zml W.2.2.1.2.1
  have:=zcs (W:=znc gT) (z:=default) l.length (λi=>((),(),l,(l.length:Int),(i:Int),())) (λi=>((⟨4,⟨0,0⟩,[],f,l,o,b⟩:At),(l.take i).map λw=>bs (txI w),())) (λ_=>true) default ((⟨4,⟨0,0⟩,[],f,l,o,b⟩:At),l.map λw=>bs (txI w))
   (λi hi' H K D=>by
    show (zf1 gT l l.length i (⟨4,⟨0,0⟩,[],f,l,o,b⟩:At) ((l.take i).map λw=>bs (txI w))).ev H K D=_
    unfold zf1;have hm:=zn hi';obtain ⟨g1,l1⟩:=hg _ (.inr ⟨_,hm,rfl⟩);have l2:=zO4 (hit _ hm).1;rw [show ByteArray.mk #[(58:UInt8),(32:UInt8)]=bs [58,32] from rfl]
    simp only [Wy.ev_i,Wy.ev_k,Wy.ev_h,Wy.ev_bn,Wy.ev_d,tT,hi',z8w (hit _ hm).1 (zml (hwl _ hm).1.2.1),g1,zEc,zuW,qg,qf,List.length_nil];rw [okS _ _ (by omega),okS _ _ (by omega),zw (by simp only at hi; omega),zj7 hi',List.map_append]
    have hb:decide ((((l.take i).map λw=>bs (txI w)).length+1)*16<=zA)=true:=by simp only at hi; simp only [qe,List.length_map,List.length_take]; omega
    generalize ((l.take i).map λw=>bs (txI w))=out at hb ⊢
    have hb':decide ((out.length+(0+1))*16<=zA)=true:=hb;simp only [hb,hb',cond_true,List.map_cons,List.map_nil,txI,List.append_assoc])
   (λH K D=>by
    show (zf1 gT l l.length l.length (⟨4,⟨0,0⟩,[],f,l,o,b⟩:At) ((l.take l.length).map λw=>bs (txI w))).ev H K D=_
    unfold zf1;simp only [Wy.ev_i,Wy.ev_k,tT,Nat.lt_irrefl,List.take_length]) (l.length+(Int.ofNat l.length).toNat +Int.toNat (0:Int)+([]:yA).length+l.length+(0:Nat)+(1:Nat)) (by omega)
  rw [show zdK (λ_=>true) l.length 0=true from zdY.2 λ_ _ _=>rfl] at this
  have e:zvn gT (l.length+(Int.ofNat l.length).toNat +Int.toNat (0:Int)+([]:yA).length+l.length+(0:Nat)+(1:Nat)) l (Int.ofNat l.length) (0:Int) (⟨4,⟨0,0⟩,[],f,l,o,b⟩:At) []=(true,((⟨4,⟨0,0⟩,[],f,l,o,b⟩:At),(l.map txI).map bs)):=by rw [List.map_map]; exact this
  simp only at hi
  have hlen:(zeE (l.map txI) [59,32]).length<=5000000000000:=by
   refine Nat.le_trans (zWO (B:=4200001000) (l.map txI) [59,32] λy hy=> ?_) (by
    rw [List.length_map]; have:=Nat.mul_le_mul hi (Nat.le_refl 4200001000); omega)
   obtain ⟨w,hw,rfl⟩:=List.mem_map.1 hy;have h1:=(hg _ (.inr ⟨w,hw,rfl⟩)).2;have h2:=zO4 (hit w hw).1;simp only [txI,qg,qf,List.length_nil]; omega
  have l3:=zbap f;have l4:=zba5 o;have l5:=zO4 hb;rw [zLI];simp only [zdi,show ¬ (4:Int)=0 by decide,show ¬ (4:Int)=1 by decide,show ¬ (4:Int)=2 by decide,show ¬ (4:Int)=3 by decide,if_false]
  rw [show ByteArray.mk #[(116:UInt8),(101:UInt8),(115:UInt8),(116:UInt8),(91:UInt8)]=bs [116,101,115,116,91] from rfl,show ByteArray.mk #[(123:UInt8)]=bs [123] from rfl,show ByteArray.mk #[(125:UInt8),(32:UInt8)]=bs [125,32] from rfl,show ByteArray.mk #[(59:UInt8),(32:UInt8)]=bs [59,32] from rfl,show ByteArray.mk #[(32:UInt8)]=bs [32] from rfl,show ByteArray.mk #[(93:UInt8)]=bs [93] from rfl]
  simp only [Wy.fin_i,show ((4:Int)==0)=false from rfl,show ((4:Int)==1)=false from rfl,show ((4:Int)==2)=false from rfl,show ((4:Int)==3)=false from rfl,cond_false]
  unfold strings_Join;obtain ⟨fb,ft⟩:=zbgg f0 f3;obtain ⟨ob,ot⟩:=zbfY o5 o10;rw [e,zXJ];simp only [Wy.fin_i,Wy.fin_k,Wy.fin_bn,fb,ft,ob,ot,z0s _ _ (show (l.map txI).length<=140737488355328 by rw [List.length_map]; omega) (show (zeE (l.map txI) [59,32]).length<=140737488355328 by omega),z8w hb hwb,cond_true,zEc,zuW,List.length_append,List.length_cons,List.length_nil]
  rw [okS _ _ (by omega),okS _ _ (by omega),okS _ _ (by omega),okS _ _ (by omega),okS _ _ (by omega),okS _ _ (by omega),okS _ _ (by omega),okS _ _ (by omega)]
  simp
end
theorem z7X:∀ n,
  (∀ m a,zbA m a=true->zgE a->3*m<=n->zoO n a=(true,bs (txN a)))/\
  (∀ m x,zd3 (zbA m) x=true->zgB x->x.Items.length<=1024->3*m+1<=n->zlP n x=(true,bs (txA x)))/\
  (∀ m (l:yC),l.length<=1000->(∀ f∈l,zd3 (zbA m) f.At=true/\zgB f.At/\f.At.Items.length<=1024/\rng f.Exp)->3*m+2<=n->zgr n l=(true,bs (txL l)))
 | 0=>by
  refine ⟨?_, ?_, ?_⟩
  ·intro m a h _ hm; have:m=0:=by omega
   subst this; cases h
  all_goals (intros; omega)
 | n+1=>by
  obtain ⟨h1,h2,h3⟩:=z7X n;refine ⟨?_, ?_, ?_⟩
  ·intro m a h hw hm;cases m with
   | zero=>cases h
   | succ m=>
    have hl:=zwk (zGm h);have hlen:=(zXB (m+1)).1 a h;rw [zR3];refine zbhv _ a (by omega) (by omega) λt ht=> ?_
    obtain ⟨⟨c1,c2⟩,hok⟩:=zvu h ht;obtain ⟨q1,q2⟩:=hl.2.2.2 t ht;have hwt:=zoc (zvB (ztf hw t ht)).2.1;refine ⟨h3 m t.Fs (by omega) (λf hf=> ?_) (by omega), ?_,by constructor <;>omega⟩
    ·obtain ⟨⟨e1,_⟩,hv⟩:=zpC hok hf;exact ⟨hv,(zq4 (hwt f hf)).1,(q2 f hf).2,by have:=(q2 f hf).1; constructor <;>omega⟩
    ·refine Nat.le_trans (z9w λf hf=>(zXB m).2 _ (zpC hok hf).2) ?_
     have hs:t.Fs.length+zbI t.Fs<=zN a:=by
      clear hok q1 q2 hwt hw h hlen hl;induction a with
      | nil=>cases ht
      | cons b r ih=>
       rw [zfQ];rcases qd.1 ht with rfl | ht
       ·omega
       ·have:=ih ht; omega
     omega
  ·intro m x h hw hi hm;rw [zH7];have W:=zsD hw;refine zbgO _ x h hw hi λa ha=> ?_
   have hv:zbA m a=true/\zgE a:=by
    rcases ha with ha | ⟨w,hw',rfl⟩
    ·refine ⟨?_,(zjN W.1.1 a ha).1⟩;cases zdm.1 h with
     | var r h=>cases ha
     | mon b c hb hc _ _ _=>
      simp only [qd,List.not_mem_nil,or_false] at ha;rcases ha with rfl | rfl
      ·exact hb
      ·exact hc
     | del b hb _ _ _=>rw [qh] at ha; subst ha; exact hb
     | abs b hb _ _=>rw [qh] at ha; subst ha; exact hb
     | tst f l o b hl hi hs hf=>cases ha
    ·refine ⟨?_,(zjz W.2.1.1 w hw').2.1⟩;cases zdm.1 h with
     | tst f l o b hl hi2 hs hf=>exact (hi2 w hw').1
     | _=>cases hw'
   refine ⟨h1 m a hv.1 hv.2 (by omega), ?_⟩
   have q1:=(zXB m).1 a hv.1;have q2:=(ze0 hv.1).2.1;omega
  ·intro m l hl h hm;rw [zEu];refine zbgm _ l hl λf hf=> ?_
   obtain ⟨q1,q2,q3,q4⟩:=h f hf;refine ⟨h2 m f.At q1 q2 q3 (by omega), ?_,q4⟩
   have q5:=(zXB m).2 f.At q1;have q6:=zZz q1 q3;omega
def hd (S:List UInt8) (u:List UInt8):Prop:=∀ c,u.head? =some c->c∈S
theorem zqm {S:List UInt8} {c:UInt8} {u:List UInt8} (h:c∈S):hd S (c::u):=λd hd=>by
 simp only [List.head?_cons,qa] at hd; subst hd; exact h
theorem hd.mono {S T:List UInt8} {u:List UInt8} (h:hd S u) (hs:∀ c∈S,c∈T):hd T u:=λc hc=>hs c (h c hc)
theorem hd.noDig {S:List UInt8} {u:List UInt8} (h:hd S u) (hs:∀ c∈S,zr0 c=false):noDig u:=λc hc=>hs c (h c hc)
theorem hd.ne {S:List UInt8} {u:List UInt8} (h:hd S u) {c:UInt8} (hs:c∉S):u.head? ≠some c:=λe=>hs (h c e)
theorem hd.cons_ne {S:List UInt8} {u:List UInt8} {c:UInt8} (h:hd S (c::u)) (hs:c∉S):False:=hs (h c rfl)
theorem zNp {α:Type} (tx:α->List UInt8) (S0:List UInt8) (s0:UInt8) (sr:List UInt8) (P:α->Prop) (hS:s0∉S0) (hR:∀ x y,P x->P y->∀ u v,hd (s0::S0) u->hd (s0::S0) v->tx x++u=tx y++v->x=y/\u=v):
  ∀ l l':List α,l≠[]->l'≠[]->(∀ x∈l,P x)->(∀ x∈l',P x)->∀ u v,hd S0 u->hd S0 v->zeE (l.map tx) (s0::sr)++u=zeE (l'.map tx) (s0::sr)++v->l=l'/\u=v
 | [],_,h,_,_,_,_,_,_,_,_=>absurd rfl h
 | _::_,[],_,h,_,_,_,_,_,_,_=>absurd rfl h
 | [x],[y],_,_,hx,hy,u,v,hu,hv,h=>by
  have mono:∀ c∈S0,c∈s0::S0:=λc hc=>List.mem_cons_of_mem _ hc
  obtain ⟨h1,h2⟩:=hR x y (hx x (by simp)) (hy y (by simp)) u v (hu.mono mono) (hv.mono mono) h
  exact ⟨by rw [h1],h2⟩
 | [x],y::y'::r',_,_,hx,hy,u,v,hu,hv,h=>by
  have mono:∀ c∈S0,c∈s0::S0:=λc hc=>List.mem_cons_of_mem _ hc
  simp only [List.map,zeE,List.append_assoc] at h;obtain ⟨h1,h2⟩:=hR x y (hx x (by simp)) (hy y (by simp)) u _ (hu.mono mono) (zqm (by simp)) h
  rw [h2] at hu;exact (hu.cons_ne hS).elim
 | x::x'::r,[y],_,_,hx,hy,u,v,hu,hv,h=>by
  have mono:∀ c∈S0,c∈s0::S0:=λc hc=>List.mem_cons_of_mem _ hc
  simp only [List.map,zeE,List.append_assoc] at h;obtain ⟨h1,h2⟩:=hR x y (hx x (by simp)) (hy y (by simp)) _ v (zqm (by simp)) (hv.mono mono) h
  rw [<- h2] at hv;exact (hv.cons_ne hS).elim
 | x::x'::r,y::y'::r',_,_,hx,hy,u,v,hu,hv,h=>by
  have h:zeE (((x::x'::r)).map tx) (s0::sr)++u=zeE (((y::y'::r')).map tx) (s0::sr)++v:=h;simp only [List.map,zeE,List.append_assoc] at h;obtain ⟨h1,h2⟩:=hR x y (hx x (by simp)) (hy y (by simp)) _ _ (zqm (by simp)) (zqm (by simp)) h
  have h3:=(List.append_right_inj sr).1 (List.cons.inj h2).2;obtain ⟨h4,h5⟩:=zNp tx S0 s0 sr P hS hR (x'::r) (y'::r') (by simp) (by simp) (λz hz=>hx z (List.mem_cons_of_mem _ hz)) (λz hz=>hy z (List.mem_cons_of_mem _ hz)) u v hu hv h3
  exact ⟨by rw [h1,h4],h5⟩
theorem z7f {t:ByteArray} (h:t.size=0):t=ByteArray.mk #[]:=zGc (by
 have:t.data.toList.length=0:=by rw [Array.length_toList]; exact h
 rw [List.length_eq_zero_iff.1 this])
theorem z7H {x y:Value} (hx:zqI x=true) (hy:zqI y=true) (rx:rng x.Int) (ry:rng y.Int) {u v:List UInt8} (hu:hd [58,93] u) (hv:hd [58,93] v) (h:txV x++u=txV y++v):x=y/\u=v:=by
 have d1:∀ c∈([58,93]:List UInt8),zr0 c=false:=by decide
 obtain ⟨cx,sx,ex,dx⟩:=z5e rx.1 rx.2;obtain ⟨cy,sy,ey,dy⟩:=z5e ry.1 ry.2
 have nd:∀ c:UInt8,c=45\/zr0 c=true->c≠39/\c≠84/\c≠70:=λc hc=>by
  refine ⟨?_, ?_, ?_⟩ <;>(intro e; subst e; revert hc; decide)
 obtain ⟨kx,ix,tx⟩:=x;obtain ⟨ky,iy,ty⟩:=y;simp only [zqI,Bool.or_eq_true,qc,beq_iff_eq,qe] at hx hy;simp only at rx ry ex ey;rcases hx with (⟨rfl,hx⟩ | ⟨⟨rfl,rfl⟩,hx⟩) | ⟨⟨rfl,hx⟩,hx2⟩
 ·have:=z7f hx; subst this;rcases hy with (⟨rfl,hy⟩ | ⟨⟨rfl,rfl⟩,hy⟩) | ⟨⟨rfl,hy⟩,hy2⟩
  ·have:=z7f hy; subst this;simp only [txV,if_true] at h;obtain ⟨h1,h2⟩:=zvl rx ry (hu.noDig d1) (hv.noDig d1) h;exact ⟨by rw [h1],h2⟩
  ·simp only [txV,if_true,show ¬ (1:Int)=0 by decide,if_false,ex,List.cons_append,qj] at h
   exact absurd h.1 (nd cx dx).1
  ·rcases hy2 with rfl | rfl
   ·simp only [txV,if_true,show ¬ (2:Int)=0 by decide,show ¬ (2:Int)=1 by decide,show ¬ (0:Int)=1 by decide,if_false,ex,List.cons_append,qj] at h
    exact absurd h.1 (nd cx dx).2.2
   ·simp only [txV,if_true,show ¬ (2:Int)=0 by decide,show ¬ (2:Int)=1 by decide,if_false,ex,List.cons_append,qj] at h
    exact absurd h.1 (nd cx dx).2.1
 ·rcases hy with (⟨rfl,hy⟩ | ⟨⟨rfl,rfl⟩,hy⟩) | ⟨⟨rfl,hy⟩,hy2⟩
  ·simp only [txV,if_true,show ¬ (1:Int)=0 by decide,if_false,ey,List.cons_append,qj] at h
   exact absurd h.1.symm (nd cy dy).1
  ·simp only [txV,if_true,show ¬ (1:Int)=0 by decide,if_false,List.cons_append,qj,true_and,List.append_assoc,List.nil_append] at h
   obtain ⟨h1,h2⟩:=z0N _ _ u v (hu.ne (by decide)) (hv.ne (by decide)) h
   exact ⟨by rw [zGc h1],h2⟩
  ·rcases hy2 with rfl | rfl <;>simp [txV] at h
 ·have:=z7f hx; subst this;rcases hy with (⟨rfl,hy⟩ | ⟨⟨rfl,rfl⟩,hy⟩) | ⟨⟨rfl,hy⟩,hy2⟩
  ·rcases hx2 with rfl | rfl
   ·simp only [txV,if_true,show ¬ (2:Int)=0 by decide,show ¬ (2:Int)=1 by decide,show ¬ (0:Int)=1 by decide,if_false,ey,List.cons_append,qj] at h
    exact absurd h.1.symm (nd cy dy).2.2
   ·simp only [txV,if_true,show ¬ (2:Int)=0 by decide,show ¬ (2:Int)=1 by decide,if_false,ey,List.cons_append,qj] at h
    exact absurd h.1.symm (nd cy dy).2.1
  ·rcases hx2 with rfl | rfl <;>simp [txV] at h
  ·have:=z7f hy; subst this;rcases hx2 with rfl | rfl <;>rcases hy2 with rfl | rfl <;>simp [txV] at h
   ·exact ⟨rfl,h⟩
   ·exact ⟨rfl,h⟩
theorem zbdZ {f g:Int} (hf:0<=f/\f<=3) (hg:0<=g/\g<=3) {u v:List UInt8} (h:fnT f++123::u=fnT g++123::v):f=g/\u=v:=by
 have c1:f=0\/f=1\/f=2\/f=3:=by omega
 have c2:g=0\/g=1\/g=2\/g=3:=by omega
 rcases c1 with rfl | rfl | rfl | rfl <;>rcases c2 with rfl | rfl | rfl | rfl <;>simp [fnT] at h <;>exact ⟨rfl,h⟩
theorem zbem {f g:Int} (hf:5<=f/\f<=10) (hg:5<=g/\g<=10) {u v:List UInt8} (h:opT f++32::u=opT g++32::v):f=g/\u=v:=by
 have c1:f=5\/f=6\/f=7\/f=8\/f=9\/f=10:=by omega
 have c2:g=5\/g=6\/g=7\/g=8\/g=9\/g=10:=by omega
 rcases c1 with rfl | rfl | rfl | rfl | rfl | rfl <;>rcases c2 with rfl | rfl | rfl | rfl | rfl | rfl <;>simp [opT] at h <;>exact ⟨rfl,h⟩
def SN:List UInt8:=[93,44,59,125]
def ST:List UInt8:=32::SN
def SF:List UInt8:=42::ST
def SA:List UInt8:=94::SF
theorem z2v:∀ c∈SA,zr0 c=false:=by decide
theorem zbic:∀ c∈ST,c∈SA:=by decide
theorem z1C:∀ c∈SF,c∈SA:=by decide
def RdN (V:yB->Bool):Prop:=∀ a b,V a=true->V b=true->zgE a->zgE b->∀ u v,hd SN u->hd SN v->txN a++u=txN b++v->a=b/\u=v
def RdA (V:yB->Bool):Prop:=∀ x y,zd3 V x=true->zd3 V y=true->zgB x->zgB y->∀ u v,hd SA u->hd SA v->txA x++u=txA y++v->x=y/\u=v
theorem zbdy {V:yB->Bool} {x:At} (h:zd3 V x=true):∃ c r,txA x=c::r/\zr0 c=false:=by
 cases zdm.1 h with
 | var r h=>rw [txA]; exact ⟨116,_,rfl,rfl⟩
 | mon a b _ _ _ _ _=>rw [txA]; exact ⟨109,_,rfl,rfl⟩
 | del a _ _ _ _=>rw [txA]; exact ⟨100,_,rfl,rfl⟩
 | abs a _ _ _=>rw [txA]; exact ⟨97,_,rfl,rfl⟩
 | tst f l o b _ _ _ _=>rw [txA]; exact ⟨116,_,rfl,rfl⟩
theorem zbcU {V:yB->Bool} (hV:RdN V):RdA V:=by
 intro x y hx hy wx wy u v hu hv h;have Wx:=zsD wx;have Wy:=zsD wy;have k0:¬ (1:Int)=0:=by decide
 have c44:∀ z,hd SN (44::z):=λz=>zqm (by decide)
 have c93:∀ z,hd SN (93::z):=λz=>zqm (by decide)
 have tE:∀ (r:RowID),zzc r=true->rng r.Table->∀ w z,ziC r.Table++w≠101::z:=λr hr hg w z e=>by
  simp only [zzc,qc,qe] at hr;obtain ⟨d1,d2⟩:=zbda (show 0<=r.Table by omega) hg.2
  cases hl:ziC r.Table with
  | nil=>exact d2 hl
  | cons c s=>
   rw [hl] at e d1;simp only [List.cons_append,qj] at e;rw [List.all_cons,e.1] at d1;revert d1; simp [zr0]
 cases zdm.1 hx with
 | var r hr=>
  have rr:=Wx.2.2.2.2.1;simp only at rr;cases zdm.1 hy with
  | var r' hr'=>
   have rr':=Wy.2.2.2.2.1;simp only at rr';rw [txA,txA] at h;simp only [zdi,if_true,txR,List.cons_append,qj,true_and,List.append_assoc] at h;obtain ⟨h1,h2⟩:=zvl (zml rr.1) (zml rr'.1) (λc hc=>by simp only [List.head?_cons,qa] at hc; subst hc; rfl) (λc hc=>by simp only [List.head?_cons,qa] at hc; subst hc; rfl) h
   simp only [qj,true_and] at h2;obtain ⟨h3,h4⟩:=zvl (zml rr.2) (zml rr'.2) (hu.noDig z2v) (hv.noDig z2v) h2;obtain ⟨t,s⟩:=r; obtain ⟨t',s'⟩:=r';simp only at h1 h3;exact ⟨by rw [h1,h3],h4⟩
  | tst f l o b _ _ _ _=>
   rw [txA,txA] at h;simp only [zdi,if_true,txR,show ¬ (4:Int)=0 by decide,show ¬ (4:Int)=1 by decide,show ¬ (4:Int)=2 by decide,show ¬ (4:Int)=3 by decide,if_false,List.cons_append,qj,true_and,List.append_assoc] at h
   exact absurd h (tE r hr (zml rr.1) _ _)
  | mon a b _ _ _ _ _=>rw [txA,txA] at h; simp [zdi,txR] at h
  | del a _ _ _ _=>rw [txA,txA] at h; simp [zdi,txR] at h
  | abs a _ _ _=>rw [txA,txA] at h; simp [zdi,txR] at h
 | mon a b ha hb _ _ _=>
  cases zdm.1 hy with
  | mon a' b' ha' hb' _ _ _=>
   rw [txA,txA,zmw,zmw] at h;simp only [zdi,if_true,k0,if_false,List.map,List.getD_cons_zero,List.getD_cons_succ,List.cons_append,qj,true_and,List.append_assoc,List.nil_append] at h;have wa:=λz hz=>(zjN Wx.1.1 z hz).1
   have wb:=λz hz=>(zjN Wy.1.1 z hz).1
   obtain ⟨h1,h2⟩:=hV a a' ha ha' (wa a (by simp)) (wb a' (by simp)) _ _ (c44 _) (c44 _) h
   simp only [qj,true_and] at h2;obtain ⟨h3,h4⟩:=hV b b' hb hb' (wa b (by simp)) (wb b' (by simp)) _ _ (c93 _) (c93 _) h2
   simp only [qj,true_and] at h4;exact ⟨by rw [h1,h3],h4⟩
  | var r h=>rw [txA,txA] at h; simp [zdi,txR] at h
  | del a _ _ _ _=>rw [txA,txA] at h; simp [zdi,txR] at h
  | abs a _ _ _=>rw [txA,txA] at h; simp [zdi,txR] at h
  | tst f l o b _ _ _ _=>rw [txA,txA] at h; simp [zdi,txR] at h
 | del a ha _ _ _=>
  cases zdm.1 hy with
  | del a' ha' _ _ _=>
   rw [txA,txA,zmw,zmw] at h;simp only [zdi,if_true,show ¬ (2:Int)=0 by decide,show ¬ (2:Int)=1 by decide,if_false,List.map,List.getD_cons_zero,List.cons_append,qj,true_and,List.append_assoc,List.nil_append] at h
   have wa:=λz hz=>(zjN Wx.1.1 z hz).1
   have wb:=λz hz=>(zjN Wy.1.1 z hz).1
   obtain ⟨h1,h2⟩:=hV a a' ha ha' (wa a (by simp)) (wb a' (by simp)) _ _ (c93 _) (c93 _) h
   simp only [qj,true_and] at h2;exact ⟨by rw [h1],h2⟩
  | var r h=>rw [txA,txA] at h; simp [zdi,txR] at h
  | mon a b _ _ _ _ _=>rw [txA,txA] at h; simp [zdi,txR] at h
  | abs a _ _ _=>rw [txA,txA] at h; simp [zdi,txR] at h
  | tst f l o b _ _ _ _=>rw [txA,txA] at h; simp [zdi,txR] at h
 | abs a ha _ _=>
  cases zdm.1 hy with
  | abs a' ha' _ _=>
   rw [txA,txA,zmw,zmw] at h;simp only [zdi,if_true,show ¬ (3:Int)=0 by decide,show ¬ (3:Int)=1 by decide,show ¬ (3:Int)=2 by decide,if_false,List.map,List.getD_cons_zero,List.cons_append,qj,true_and,List.append_assoc,List.nil_append] at h
   have wa:=λz hz=>(zjN Wx.1.1 z hz).1
   have wb:=λz hz=>(zjN Wy.1.1 z hz).1
   obtain ⟨h1,h2⟩:=hV a a' ha ha' (wa a (by simp)) (wb a' (by simp)) _ _ (c93 _) (c93 _) h
   simp only [qj,true_and] at h2;exact ⟨by rw [h1],h2⟩
  | var r h=>rw [txA,txA] at h; simp [zdi,txR] at h
  | mon a b _ _ _ _ _=>rw [txA,txA] at h; simp [zdi,txR] at h
  | del a _ _ _ _=>rw [txA,txA] at h; simp [zdi,txR] at h
  | tst f l o b _ _ _ _=>rw [txA,txA] at h; simp [zdi,txR] at h
 | tst f l o b hl hi hs hf=>
  cases zdm.1 hy with
  | tst f' l' o' b' hl' hi' hs' hf'=>
   obtain ⟨⟨f0,f3,o5,o10⟩,hb,hit⟩:=ztm hf;obtain ⟨⟨f0',f3',o5',o10'⟩,hb',hit'⟩:=ztm hf';have wl:=zjz Wx.2.1.1;have wl':=zjz Wy.2.1.1;rw [txA,txA,zLI,zLI] at h;simp only [zdi,show ¬ (4:Int)=0 by decide,show ¬ (4:Int)=1 by decide,show ¬ (4:Int)=2 by decide,show ¬ (4:Int)=3 by decide,if_false,List.cons_append,qj,true_and,List.append_assoc,List.nil_append] at h
   obtain ⟨h1,h2⟩:=zbdZ ⟨f0,f3⟩ ⟨f0',f3'⟩ h
   obtain ⟨h3,h4⟩:=zNp txI [125] 59 [32] (λw=>(V w.Ann=true/\zgE w.Ann)/\zqI w.Value=true/\rng w.Value.Int) (by decide) (λx y px py u v hu hv e=>by
    simp only [txI,List.append_assoc,List.cons_append,List.nil_append] at e;obtain ⟨e1,e2⟩:=z7H px.2.1 py.2.1 px.2.2 py.2.2 (zqm (by decide)) (zqm (by decide)) e
    simp only [qj,true_and] at e2;obtain ⟨e3,e4⟩:=hV _ _ px.1.1 py.1.1 px.1.2 py.1.2 u v (hu.mono (by decide)) (hv.mono (by decide)) e2
    obtain ⟨vx,ax⟩:=x; obtain ⟨vy,ay⟩:=y;simp only at e1 e3;exact ⟨by rw [e1,e3],e4⟩) l l' hl hl' (λw hw=>⟨⟨(hi w hw).1,(wl w hw).2.1⟩,(hit w hw).1,zml (wl w hw).1.2.1⟩) (λw hw=>⟨⟨(hi' w hw).1,(wl' w hw).2.1⟩,(hit' w hw).1,zml (wl' w hw).1.2.1⟩) _ _ (zqm (by decide)) (zqm (by decide)) h2
   simp only [qj,true_and] at h4;obtain ⟨h5,h6⟩:=zbem ⟨o5,o10⟩ ⟨o5',o10'⟩ h4;obtain ⟨h7,h8⟩:=z7H hb hb' (zml Wx.2.2.1.2.1) (zml Wy.2.2.1.2.1) (zqm (by decide)) (zqm (by decide)) h6
   simp only [qj,true_and] at h8;exact ⟨by rw [h1,h3,h5,h7],h8⟩
  | var r hr=>
   have rr:=Wy.2.2.2.2.1;simp only at rr;rw [txA,txA] at h;simp only [zdi,if_true,txR,show ¬ (4:Int)=0 by decide,show ¬ (4:Int)=1 by decide,show ¬ (4:Int)=2 by decide,show ¬ (4:Int)=3 by decide,if_false,List.cons_append,qj,true_and,List.append_assoc] at h
   exact absurd h.symm (tE r hr (zml rr.1) _ _)
  | mon a b _ _ _ _ _=>rw [txA,txA] at h; simp [zdi,txR] at h
  | del a _ _ _ _=>rw [txA,txA] at h; simp [zdi,txR] at h
  | abs a _ _ _=>rw [txA,txA] at h; simp [zdi,txR] at h
def gF (V:yB->Bool) (f:Fc):Prop:=zd3 V f.At=true/\zgB f.At/\rng f.Exp
theorem zbgB {V:yB->Bool} (hA:RdA V) {f g:Fc} (hf:gF V f) (hg:gF V g) {u v:List UInt8} (hu:hd SF u) (hv:hd SF v) (h:txF f++u=txF g++v):f=g/\u=v:=by
 obtain ⟨x,e⟩:=f; obtain ⟨y,e'⟩:=g;obtain ⟨a1,a2,a3⟩:=hf; obtain ⟨b1,b2,b3⟩:=hg;simp only at a1 a2 a3 b1 b2 b3;have c94:∀ z,hd SA (94::z):=λz=>zqm (by decide)
 have n94:(94:UInt8)∉SF:=by decide
 have dg:∀ c∈SF,zr0 c=false:=λc hc=>z2v c (z1C c hc)
 unfold txF zMH at h;simp only at h;by_cases h1:e=1
 ·by_cases h2:e'=1
  ·rw [if_pos h1,if_pos h2] at h;obtain ⟨q1,q2⟩:=hA x y a1 b1 a2 b2 u v (hu.mono z1C) (hv.mono z1C) h;exact ⟨by rw [q1,h1,h2],q2⟩
  ·rw [if_pos h1,if_neg h2,List.append_assoc] at h;obtain ⟨q1,q2⟩:=hA x y a1 b1 a2 b2 u _ (hu.mono z1C) (c94 _) h;rw [q2] at hu;exact (hu.cons_ne n94).elim
 ·by_cases h2:e'=1
  ·rw [if_neg h1,if_pos h2,List.append_assoc] at h;obtain ⟨q1,q2⟩:=hA x y a1 b1 a2 b2 _ v (c94 _) (hv.mono z1C) h;rw [<- q2] at hv;exact (hv.cons_ne n94).elim
  ·rw [if_neg h1,if_neg h2,List.append_assoc,List.append_assoc] at h;obtain ⟨q1,q2⟩:=hA x y a1 b1 a2 b2 _ _ (c94 _) (c94 _) h;simp only [List.cons_append,qj,true_and] at q2;obtain ⟨q3,q4⟩:=zvl a3 b3 (hu.noDig dg) (hv.noDig dg) q2;exact ⟨by rw [q1,q3],q4⟩
theorem z4O {V:yB->Bool} (hA:RdA V) {l l':yC} (hl:l≠[]) (hl':l'≠[]) (h1:∀ f∈l,gF V f) (h2:∀ f∈l',gF V f) {u v:List UInt8} (hu:hd ST u) (hv:hd ST v) (h:txL l++u=txL l'++v):l=l'/\u=v:=by
 unfold txL at h;rw [zyO,zyO] at h;exact zNp txF ST 42 [] (gF V) (by decide) (λx y px py u v hu hv e=>zbgB hA px py hu hv e) l l' hl hl' h1 h2 u v hu hv h
theorem zFr {V:yB->Bool} {l:yC} (hl:l≠[]) (h:∀ f∈l,gF V f):∃ c r,txL l=c::r/\zr0 c=false:=by
 cases l with
 | nil=>exact absurd rfl hl
 | cons f r=>
  obtain ⟨c,s,e,hc⟩:=zbdy (h f (by simp)).1
  have:∃ s',txF f=c::s':=by
   unfold txF zMH;split
   ·exact ⟨s,e⟩
   ·exact ⟨_,by rw [e]; rfl⟩
  obtain ⟨s',e'⟩:=this;unfold txL;rw [zyO];cases r with
  | nil=>exact ⟨c,s',by simp only [List.map,zeE]; exact e',hc⟩
  | cons g r=>exact ⟨c,_,by simp only [List.map,zeE]; rw [e']; rfl,hc⟩
def gT (V:yB->Bool) (t:Term):Prop:=(1<=t.Cf/\t.Cf<=9223372036854775807)/\∀ f∈t.Fs,gF V f
theorem z3P {n:Int} (h:1<=n) (h2:n<=9223372036854775807):∃ c r,ziC n=c::r/\zr0 c=true/\c≠48:=by
 have e:ziC n=Lib.decDigits n.toNat:=by rw [z0O (by omega) h2,Lib.itoa,if_neg (by omega)]
 obtain ⟨a1,a2,a3,a4⟩:=zXm n.toNat n.toNat (Nat.le_refl _);rw [e];cases hl:Lib.decDigits n.toNat with
 | nil=>exact absurd hl a3
 | cons c r=>
  rw [hl] at a1 a4;rw [List.all_cons,qc] at a1;exact ⟨c,r,rfl,a1.1,λe=>a4 (by omega) (by rw [e]; rfl)⟩
theorem z7J {l:yC}:zK8 l=[]↔l=[]:=by rw [zyO,List.map_eq_nil_iff]
theorem z7I (t:Term):txT t=if t.Fs=[] then ziC t.Cf else if t.Cf=1 then txL t.Fs else ziC t.Cf++42::txL t.Fs:=by
 unfold txT zVm;by_cases h:t.Fs=[]
 ·rw [if_pos (z7J.2 h),if_pos h]
 ·rw [if_neg (λe=>h (z7J.1 e)),if_neg h]; rfl
theorem zbgL {V:yB->Bool} (hA:RdA V) {s t:Term} (hs:gT V s) (ht:gT V t) {u v:List UInt8} (hu:hd ST u) (hv:hd ST v) (h:txT s++u=txT t++v):s=t/\u=v:=by
 obtain ⟨c,l⟩:=s; obtain ⟨c',l'⟩:=t;obtain ⟨⟨c1,c2⟩,h1⟩:=hs; obtain ⟨⟨c1',c2'⟩,h2⟩:=ht;simp only at c1 c2 h1 c1' c2' h2;have dg:∀ c∈ST,zr0 c=false:=λc hc=>z2v c (zbic c hc)
 have n42:(42:UInt8)∉ST:=by decide
 have d42:∀ z,noDig (42::z):=λz c hc=>by simp only [List.head?_cons,qa] at hc; subst hc; rfl
 have rc:rng c:=⟨by omega,c2⟩
 have rc':rng c':=⟨by omega,c2'⟩
 obtain ⟨d,r,e,hd,_⟩:=z3P c1 c2;obtain ⟨d',r',e',hd',_⟩:=z3P c1' c2';rw [z7I,z7I] at h;simp only at h;by_cases l0:l=[]
 ·rw [if_pos l0] at h;by_cases l0':l'=[]
  ·rw [if_pos l0'] at h;obtain ⟨q1,q2⟩:=zvl rc rc' (hu.noDig dg) (hv.noDig dg) h;exact ⟨by rw [q1,l0,l0'],q2⟩
  ·rw [if_neg l0'] at h;by_cases k':c'=1
   ·rw [if_pos k'] at h;obtain ⟨d2,r2,e2,hd2⟩:=zFr l0' h2;rw [e,e2] at h;simp only [List.cons_append,qj] at h;rw [h.1,hd2] at hd; cases hd
   ·rw [if_neg k',List.append_assoc] at h;obtain ⟨q1,q2⟩:=zvl rc rc' (hu.noDig dg) (d42 _) h;rw [q2] at hu;exact (hu.cons_ne n42).elim
 ·rw [if_neg l0] at h;by_cases k:c=1
  ·rw [if_pos k] at h;obtain ⟨d2,r2,e2,hd2⟩:=zFr l0 h1;by_cases l0':l'=[]
   ·rw [if_pos l0',e2,e'] at h;simp only [List.cons_append,qj] at h;rw [<- h.1,hd2] at hd'; cases hd'
   ·rw [if_neg l0'] at h;by_cases k':c'=1
    ·rw [if_pos k'] at h;obtain ⟨q1,q2⟩:=z4O hA l0 l0' h1 h2 hu hv h;exact ⟨by rw [q1,k,k'],q2⟩
    ·rw [if_neg k',e2,e'] at h;simp only [List.cons_append,qj] at h;rw [<- h.1,hd2] at hd'; cases hd'
  ·rw [if_neg k,List.append_assoc] at h;by_cases l0':l'=[]
   ·rw [if_pos l0'] at h;obtain ⟨q1,q2⟩:=zvl rc rc' (d42 _) (hv.noDig dg) h;rw [<- q2] at hv;exact (hv.cons_ne n42).elim
   ·rw [if_neg l0'] at h;by_cases k':c'=1
    ·rw [if_pos k'] at h;obtain ⟨d2,r2,e2,hd2⟩:=zFr l0' h2;rw [e,e2] at h;simp only [List.cons_append,qj] at h;rw [h.1,hd2] at hd; cases hd
    ·rw [if_neg k',List.append_assoc] at h;obtain ⟨q1,q2⟩:=zvl rc rc' (d42 _) (d42 _) h;simp only [List.cons_append,qj,true_and] at q2;obtain ⟨q3,q4⟩:=z4O hA l0 l0' h1 h2 hu hv q2;exact ⟨by rw [q1,q3],q4⟩
theorem zbdL {V:yB->Bool} {t:Term} (ht:gT V t):∃ c r,txT t=c::r/\c≠48:=by
 obtain ⟨⟨c1,c2⟩,h1⟩:=ht;obtain ⟨d,r,e,hd,h48⟩:=z3P c1 c2;rw [z7I];by_cases l0:t.Fs=[]
 ·rw [if_pos l0]; exact ⟨d,r,e,h48⟩
 ·rw [if_neg l0];split
  ·obtain ⟨d2,r2,e2,hd2⟩:=zFr l0 h1;exact ⟨d2,r2,e2,λe=>by rw [e] at hd2; revert hd2; decide⟩
  ·exact ⟨d,_,by rw [e]; rfl,h48⟩
theorem zbgT {V:yB->Bool} (hA:RdA V) {a b:yB} (ha:∀ t∈a,gT V t) (hb:∀ t∈b,gT V t) {u v:List UInt8} (hu:hd SN u) (hv:hd SN v) (h:txN a++u=txN b++v):a=b/\u=v:=by
 have en:∀ z:yB,z≠[]->txN z=zeE (z.map txT) [32,43,32]:=λz hz=>by
  unfold txN zR2; rw [zRj,if_neg (by simpa using hz)]
 have e0:txN []=[48]:=by unfold txN zR2; rw [zRm,if_pos rfl]
 have h48:∀ z:yB,z≠[]->(∀ t∈z,gT V t)->∃ c r,txN z=c::r/\c≠48:=λz hz hg=>by
  rw [en z hz];cases z with
  | nil=>exact absurd rfl hz
  | cons t r=>
   obtain ⟨c,s,e,hc⟩:=zbdL (hg t (by simp))
   cases r with
   | nil=>exact ⟨c,s,by simp only [List.map,zeE]; exact e,hc⟩
   | cons t' r=>exact ⟨c,_,by simp only [List.map,zeE]; rw [e]; rfl,hc⟩
 by_cases a0:a=[]
 ·by_cases b0:b=[]
  ·rw [a0,b0] at h;exact ⟨by rw [a0,b0],List.append_cancel_left h⟩
  ·obtain ⟨c,r,e,hc⟩:=h48 b b0 hb;rw [a0,e0,e] at h;simp only [List.cons_append,qj] at h;exact absurd h.1.symm hc
 ·by_cases b0:b=[]
  ·obtain ⟨c,r,e,hc⟩:=h48 a a0 ha;rw [b0,e0,e] at h;simp only [List.cons_append,qj] at h;exact absurd h.1 hc
  ·rw [en a a0,en b b0] at h;exact zNp txT SN 32 [43,32] (gT V) (by decide) (λx y px py u v hu hv e=>zbgL hA px py hu hv e) a b a0 b0 ha hb u v hu hv h
theorem zbeq:∀ m,RdN (zbA m)/\RdA (zbA m):=by
 intro m;induction m with
 | zero=>
  have:RdN (zbA 0):=λa b ha=>by cases ha
  exact ⟨this,zbcU this⟩
 | succ m ih=>
  have:RdN (zbA (m+1)):=λa b ha hb wa wb u v hu hv h=>by
   have key:∀ z,zbA (m+1) z=true->zgE z->∀ t∈z,gT (zbA m) t:=λz hz wz t ht=>by
    obtain ⟨⟨c1,c2⟩,hok⟩:=zvu hz ht;have hwt:=zoc (zvB (ztf wz t ht)).2.1;exact ⟨⟨c1,by omega⟩,λf hf=>⟨(zpC hok hf).2,(zq4 (hwt f hf)).1,zml (zq4 (hwt f hf)).2⟩⟩
   exact zbgT ih.2 (key a ha wa) (key b hb wb) hu hv h
  exact ⟨this,zbcU this⟩
theorem zbge {m:Nat} {l l':yC} (h1:∀ f∈l,gF (zbA m) f) (h2:∀ f∈l',gF (zbA m) f) (h:txL l=txL l'):l=l':=by
 have e0:txL []=[]:=by unfold txL; rw [zK8]; rfl
 by_cases l0:l=[]
 ·by_cases l0':l'=[]
  ·rw [l0,l0']
  ·obtain ⟨c,r,e,_⟩:=zFr l0' h2;rw [l0,e0,e] at h; cases h
 ·by_cases l0':l'=[]
  ·obtain ⟨c,r,e,_⟩:=zFr l0 h1;rw [l0',e0,e] at h; cases h
  ·exact (z4O (zbeq m).2 l0 l0' h1 h2 (u:=[]) (v:=[]) (λc hc=>by cases hc) (λc hc=>by cases hc) (by rw [h])).1
def zzl (a b:Int):Int:=if 1152921504606846976<a+b then 1152921504606846976 else a+b
def cT (x y:Term):Int:=zbr (zby x.Fs) (zby y.Fs)
theorem zXG {x y:Term} (h:cT x y=0):x.Fs=y.Fs:=zA8 _ _ (zJG _ _ h)
theorem zJF {x y:Term} (h:x.Fs=y.Fs):cT x y=0:=by unfold cT; rw [h]; exact zVn _
def zi2 (t:Term):yB->yB
 | []=>[t]
 | x::r=>if cT x t<0 then x::zi2 t r else if cT x t=0 then ⟨zzl x.Cf t.Cf,t.Fs⟩::r else t::x::r
def zmY (t:Term):yB->yB
 | []=>[t]
 | x::r=>if x.Fs=t.Fs then ⟨zzl x.Cf t.Cf,x.Fs⟩::r else x::zmY t r
abbrev Srs (l:yB):Prop:=l.Pairwise λx y=>cT x y<0
abbrev Dst (l:yB):Prop:=l.Pairwise λx y=>x.Fs≠y.Fs
theorem Srs.dst {l:yB} (h:Srs l):Dst l:=h.imp λ{x y} hxy e=>by rw [zJF e] at hxy; omega
def SM (l:yB) (t y:Term):Prop:=(y∈l/\y.Fs≠t.Fs)\/(y.Fs=t.Fs/\((∃ x∈l,x.Fs=t.Fs/\y.Cf=zzl x.Cf t.Cf)\/((∀ x∈l,x.Fs≠t.Fs)/\y.Cf=t.Cf)))
theorem zbag {x y:Term} (h1:x.Cf=y.Cf) (h2:x.Fs=y.Fs):x=y:=by cases x; cases y; simp_all
theorem zLv {x y z:Term} (h1:cT x y<0) (h2:cT y z<0):cT x z<0:=z5Z h1 h2
theorem zFz (x y:Term):cT y x= - cT x y:=zGL _ _
theorem z1Z {x t y:Term} {r:yB} (hx:x.Fs≠t.Fs) (hr:∀ z∈r,x.Fs≠z.Fs):SM (x::r) t y↔y=x\/SM r t y:=by
 unfold SM;constructor
 ·rintro (⟨h1,h2⟩ | ⟨h1,⟨z,hz,h2,h3⟩ | ⟨h2,h3⟩⟩)
  ·rcases qd.1 h1 with rfl | h1
   ·exact .inl rfl
   ·exact .inr (.inl ⟨h1,h2⟩)
  ·rcases qd.1 hz with rfl | hz
   ·exact absurd h2 hx
   ·exact .inr (.inr ⟨h1,.inl ⟨z,hz,h2,h3⟩⟩)
  ·exact .inr (.inr ⟨h1,.inr ⟨λz hz=>h2 z (by simp [hz]),h3⟩⟩)
 ·rintro (rfl | ⟨h1,h2⟩ | ⟨h1,⟨z,hz,h2,h3⟩ | ⟨h2,h3⟩⟩)
  ·exact .inl ⟨by simp,hx⟩
  ·exact .inl ⟨by simp [h1],h2⟩
  ·exact .inr ⟨h1,.inl ⟨z,by simp [hz],h2,h3⟩⟩
  ·exact .inr ⟨h1,.inr ⟨λz hz=>by
    rcases qd.1 hz with rfl | hz
    ·exact hx
    ·exact h2 z hz,h3⟩⟩
theorem z3V {t y:Term} {l:yB} (h:∀ z∈l,z.Fs≠t.Fs):SM l t y↔y=t\/y∈l:=by
 unfold SM;constructor
 ·rintro (⟨h1,h2⟩ | ⟨h1,⟨z,hz,h2,h3⟩ | ⟨h2,h3⟩⟩)
  ·exact .inr h1
  ·exact absurd h2 (h z hz)
  ·exact .inl (zbag h3 h1)
 ·rintro (rfl | h1)
  ·exact .inr ⟨rfl,.inr ⟨h,rfl⟩⟩
  ·exact .inl ⟨h1,h y h1⟩
theorem zbdi {x t y:Term} {r:yB} (hx:x.Fs=t.Fs) (hr:∀ z∈r,z.Fs≠t.Fs):SM (x::r) t y↔y=⟨zzl x.Cf t.Cf,t.Fs⟩\/y∈r:=by
 unfold SM;constructor
 ·rintro (⟨h1,h2⟩ | ⟨h1,⟨z,hz,h2,h3⟩ | ⟨h2,h3⟩⟩)
  ·rcases qd.1 h1 with rfl | h1
   ·exact absurd hx h2
   ·exact .inr h1
  ·rcases qd.1 hz with rfl | hz
   ·exact .inl (zbag h3 h1)
   ·exact absurd h2 (hr z hz)
  ·exact absurd hx (h2 x (by simp))
 ·rintro (rfl | h1)
  ·exact .inr ⟨rfl,.inl ⟨x,by simp,hx,rfl⟩⟩
  ·exact .inl ⟨by simp [h1],hr y h1⟩
theorem zPo {t y:Term}:∀ {l:yB},Srs l->(y∈zi2 t l↔SM l t y)
 | [],_=>by rw [z3V (by simp)]; simp [zi2]
 | x::r,h=>by
  have hc:=qi.1 h;have hd:=qi.1 h.dst;unfold zi2;by_cases h1:cT x t<0
  ·rw [if_pos h1,qd,z1Z (λe=>by rw [zJF e] at h1; omega) hd.1,zPo hc.2]
  ·rw [if_neg h1];by_cases h2:cT x t=0
   ·rw [if_pos h2,List.mem_cons,zbdi (zXG h2) λz hz e=>by
     have:=hc.1 z hz; rw [zJF ((zXG h2).trans e.symm)] at this; omega]
   ·rw [if_neg h2,z3V λz hz e=>by
     have a:=zFz x t;rcases qd.1 hz with rfl | hz
     ·exact h2 (zJF e)
     ·have b:=zLv (show cT t x<0 by omega) (hc.1 z hz)
      rw [zJF e.symm] at b; omega]
    rw [qd]
theorem z3N {t y:Term}:∀ {l:yB},Dst l->(y∈zmY t l↔SM l t y)
 | [],_=>by rw [z3V (by simp)]; simp [zmY]
 | x::r,h=>by
  have hd:=qi.1 h;unfold zmY;by_cases h2:x.Fs=t.Fs
  ·rw [if_pos h2,qd,zbdi h2 λz hz e=>hd.1 z hz (h2.trans e.symm),h2]
  ·rw [if_neg h2,qd,z1Z h2 hd.1,z3N hd.2]
theorem zCf {t:Term}:∀ {l:yB},Srs l->Srs (zi2 t l)
 | [],_=>by simp [zi2]
 | x::r,h=>by
  have hc:=qi.1 h;unfold zi2;by_cases h1:cT x t<0
  ·rw [if_pos h1];refine qi.2 ⟨λz hz=> ?_,zCf hc.2⟩
   rcases (zPo hc.2).1 hz with ⟨h2,_⟩ | ⟨h2,_⟩
   ·exact hc.1 z h2
   ·have:cT x z=cT x t:=by unfold cT; rw [h2]
    rw [this]; exact h1
  ·rw [if_neg h1];by_cases h2:cT x t=0
   ·rw [if_pos h2];refine qi.2 ⟨λz hz=> ?_,hc.2⟩
    have:=hc.1 z hz;unfold cT at this ⊢;rw [<- zXG h2]; exact this
   ·rw [if_neg h2];have a:=zFz x t;refine qi.2 ⟨λz hz=> ?_,h⟩
    rcases qd.1 hz with rfl | hz
    ·omega
    ·exact zLv (show cT t x<0 by omega) (hc.1 z hz)
theorem z4I {t:Term}:∀ {l:yB},Dst l->Dst (zmY t l)
 | [],_=>by simp [zmY]
 | x::r,h=>by
  have hc:=qi.1 h;unfold zmY;by_cases h2:x.Fs=t.Fs
  ·rw [if_pos h2];exact qi.2 ⟨λz hz=>hc.1 z hz,hc.2⟩
  ·rw [if_neg h2];refine qi.2 ⟨λz hz=> ?_,z4I hc.2⟩
   rcases (z3N hc.2).1 hz with ⟨h3,_⟩ | ⟨h3,_⟩
   ·exact hc.1 z h3
   ·rw [h3]; exact h2
theorem Dst.nodup {l:yB} (h:Dst l):l.Nodup:=h.imp λ{x y} hxy e=>hxy (by rw [e])
theorem zbeW {l l':yB} (h:l.Perm l') (t y:Term):SM l t y↔SM l' t y:=by
 unfold SM;simp only [h.mem_iff]
theorem zbcP {l l':yB} (t:Term) (h:l.Perm l') (hs:Srs l) (hd:Dst l'):(zi2 t l).Perm (zmY t l'):=
 (List.perm_ext_iff_of_nodup (zCf hs).dst.nodup (z4I hd).nodup).2 λy=>by rw [zPo hs,z3N hd,zbeW h]
def zeO (a b:yB):yB:=b.foldl (λa t=>zi2 t a) a
def zNf (ts:yB):yB:=ts.foldl (λa t=>zmY t a) []
theorem zQs:∀ (b a:yB),Srs a->Srs (zeO a b)
 | [],_,h=>h
 | t::r,a,h=>zQs r (zi2 t a) (zCf h)
theorem z5O:∀ (ts l l':yB),l.Perm l'->Srs l->Dst l'->(zeO l ts).Perm (ts.foldl (λa t=>zmY t a) l')/\Dst (ts.foldl (λa t=>zmY t a) l')
 | [],l,l',h,_,hd=>⟨h,hd⟩
 | t::r,l,l',h,hs,hd=>z5O r (zi2 t l) (zmY t l') (zbcP t h hs hd) (zCf hs) (z4I hd)
theorem z9e {t:Term}:∀ {l:yB},(∀ x∈l,cT x t<0)->zi2 t l=l++[t]
 | [],_=>rfl
 | x::r,h=>by
  unfold zi2;rw [if_pos (h x (by simp)),z9e λy hy=>h y (by simp [hy])]; rfl
theorem z4n:∀ (r l:yB),Srs (l++r)->zeO l r=l++r
 | [],l,_=>by simp [zeO]
 | t::r,l,h=>by
  have e:zeO l (t::r)=zeO (zi2 t l) r:=rfl;have hp:=List.pairwise_append.1 h;rw [e,z9e λx hx=>hp.2.2 x hx t (by simp),z4n r (l++[t]) (by simpa using h)]
  simp
theorem sum_nil {a:yB} (h:Srs a):zeO [] a=a:=z4n a [] h
theorem zbfd (a b:yB) (h:Srs a):zeO [] (a++b)=zeO a b:=by
 show (a++b).foldl (λa t=>zi2 t a) []=_
 rw [List.foldl_append];show zeO (zeO [] a) b=_;rw [sum_nil h]
theorem zJK {y:Term}:∀ (b a:yB),Srs a->y∈zeO a b->∃ x,(x∈a\/x∈b)/\y.Fs=x.Fs
 | [],a,_,h=>⟨y,.inl h,rfl⟩
 | t::r,a,hs,h=>by
  obtain ⟨x,hx,e⟩:=zJK r (zi2 t a) (zCf hs) h;rcases hx with hx | hx
  ·rcases (zPo hs).1 hx with ⟨h1,_⟩ | ⟨h1,_⟩
   ·exact ⟨x,.inl h1,e⟩
   ·exact ⟨t,.inr (by simp),e.trans h1⟩
  ·exact ⟨x,.inr (by simp [hx]),e⟩
theorem z5p {a b:Int} (ha:1<=a) (hb:1<=b):1<=zzl a b/\zzl a b<=1152921504606846976:=by
 unfold zzl;split
 ·omega
 ·omega
def cOK (t:Term):Prop:=1<=t.Cf/\t.Cf<=1152921504606846976
theorem zbcf {t:Term} (ht:cOK t):∀ {l:yB},(∀ x∈l,cOK x)->∀ x∈zi2 t l,cOK x
 | [],_,x,hx=>by simp only [zi2,qh] at hx; subst hx; exact ht
 | y::r,h,x,hx=>by
  unfold zi2 at hx;split at hx
  ·rcases qd.1 hx with rfl | hx
   ·exact h _ (by simp)
   ·exact zbcf ht (λz hz=>h z (by simp [hz])) x hx
  ·split at hx
   ·rcases qd.1 hx with rfl | hx
    ·exact z5p (h y (by simp)).1 ht.1
    ·exact h x (by simp [hx])
   ·rcases qd.1 hx with rfl | hx
    ·exact ht
    ·exact h x hx
theorem zbbk:∀ (b:yB) {a:yB},(∀ x∈a,cOK x)->(∀ x∈b,cOK x)->∀ x∈zeO a b,cOK x
 | [],a,ha,_=>ha
 | t::r,a,ha,hb=>zbbk r (zbcf (hb t (by simp)) ha) λx hx=>hb x (by simp [hx])
theorem zXP {t:Term}:∀ (l:yB),(zi2 t l).length<=l.length+1
 | []=>by simp [zi2]
 | x::r=>by
  have:=zXP (t:=t) r;unfold zi2;split
  ·simp only [qf]; omega
  ·split <;>simp
theorem zFi:∀ (b a:yB),(zeO a b).length<=a.length+b.length
 | [],a=>by simp [zeO]
 | t::r,a=>by
  have h1:=zFi r (zi2 t a);have h2:=zXP (t:=t) a;show (zeO (zi2 t a) r).length<=_;simp only [qf]; omega
def cF (x y:Fc):Int:=zbb (zdO x.At) (zdO y.At)
theorem zbai {x y:Fc} (h:cF x y=0):x.At=y.At:=z1M _ _ (zss _ _ h)
theorem zbfR (x y:Fc):cF y x= - cF x y:=zfX _ _
theorem z52 {a b c:TT} (h1:zbb a b<0) (h2:zbb b c<0):zbb a c<0:=by
 have h:=zta a b c (by omega) (by omega)
 by_cases e:zbb a c=0
 ·have e':=zss a c e;subst e';have:=zfX a b;omega
 ·omega
theorem zFs {x y z:Fc} (h1:cF x y<0) (h2:cF y z<0):cF x z<0:=z52 h1 h2
abbrev Srf (l:yC):Prop:=l.Pairwise λx y=>cF x y<0
def zHE (f:Fc):yC->yC
 | []=>[f]
 | x::r=>if cF x f<0 then x::zHE f r else if cF x f=0 then (if f.At.Kind<3 then ⟨f.At,x.Exp+f.Exp⟩ else f)::r else f::x::r
def zbK:yC->yC->yC
 | [],b=>b
 | x::a,[]=>x::a
 | x::a,y::b=>if cF x y<0 then x::zbK a (y::b) else if 0<cF x y then y::zbK (x::a) b else (if x.At.Kind=3\/x.At.Kind=4 then x else ⟨x.At,x.Exp+y.Exp⟩)::zbK a b
termination_by a b=>a.length+b.length
theorem zMS (a:yC):zbK a []=a:=by cases a <;>rw [zbK]
theorem zLe {m:Fc} {L b:yC} (h:∀ z∈b,cF m z<0):zbK (m::L) b=m::zbK L b:=by
 cases b with
 | nil=>rw [zMS,zMS]
 | cons z b=>rw [zbK,if_pos (h z (by simp))]
def eOK (f:Fc):Prop:=(0<=f.At.Kind/\f.At.Kind<=4)/\(f.At.Kind=3\/f.At.Kind=4->f.Exp=1)
theorem z7L {y:Fc} {b:yC} (hb:∀ z∈b,cF y z<0) (hy:eOK y):∀ {a:yC},(∀ x∈a,eOK x)->zbK (zHE y a) b=zbK a (y::b)
 | [],_=>by
  rw [zHE,zLe hb,zbK,zbK]
 | x::a,ha=>by
  unfold zHE;by_cases h1:cF x y<0
  ·rw [if_pos h1,zLe λz hz=>zFs h1 (hb z hz),z7L hb hy λz hz=>ha z (by simp [hz]),zLe (m:=x) (b:=y::b) λz hz=>by
    rcases qd.1 hz with rfl | hz
    ·exact h1
    ·exact zFs h1 (hb z hz)]
  ·rw [if_neg h1];by_cases h2:cF x y=0
   ·have ea:=zbai h2
    rw [if_pos h2,zLe λz hz=>by
     have e:(if y.At.Kind<3 then (⟨y.At,x.Exp+y.Exp⟩:Fc) else y).At=y.At:=by split <;>rfl
     have:=hb z hz;unfold cF at this ⊢; rw [e]; exact this]
    rw [zbK,if_neg h1,if_neg (show ¬ 0<cF x y by omega)]
    congr 1;have hx:=ha x (by simp)
    obtain ⟨xa,xe⟩:=x;obtain ⟨ya,ye⟩:=y;simp only at ea;subst ea;obtain ⟨⟨k0,k4⟩,h3⟩:=hx;obtain ⟨_,h3'⟩:=hy;simp only at k0 k4 h3 h3' ⊢;by_cases hk:xa.Kind<3
    ·rw [if_pos hk,if_neg (by omega)]
    ·have hk':xa.Kind=3\/xa.Kind=4:=by omega
     rw [if_neg hk,if_pos hk',h3 hk',h3' hk']
   ·rw [if_neg h2,zLe hb];rw [zbK,if_neg h1,if_pos (by omega)]
theorem zSt:∀ (b a:yC),Srf b->(∀ x∈a,eOK x)->(∀ x∈b,eOK x)->b.foldl (λl f=>zHE f l) a=zbK a b
 | [],a,_,_,_=>by rw [zMS]; rfl
 | y::b,a,hs,ha,hb=>by
  have hc:=qi.1 hs;have hy:=hb y (by simp)
  rw [List.foldl_cons,zSt b (zHE y a) hc.2 (λx hx=> ?_) λx hx=>hb x (by simp [hx]),z7L hc.1 hy ha]
  -- kinds and exponents are kept
  clear hs hc hb;induction a with
  | nil=>simp only [zHE,qh] at hx; subst hx; exact hy
  | cons z r ih=>
   unfold zHE at hx;split at hx
   ·rcases qd.1 hx with rfl | hx
    ·exact ha _ (by simp)
    ·exact ih (λw hw=>ha w (by simp [hw])) hx
   ·split at hx
    ·rcases qd.1 hx with rfl | hx
     ·split
      ·rename_i hk; exact ⟨hy.1,λh=>by simp only at h; omega⟩
      ·exact hy
     ·exact ha x (by simp [hx])
    ·rcases qd.1 hx with rfl | hx
     ·exact hy
     ·exact ha x hx
theorem ztK {x:Fc}:∀ {a b:yC},x∈zbK a b->∃ y,(y∈a\/y∈b)/\x.At=y.At
 | [],b,h=>⟨x,.inr (by rwa [zbK] at h),rfl⟩
 | y::a,[],h=>⟨x,.inl (by rwa [zbK] at h),rfl⟩
 | y::a,z::b,h=>by
  rw [zbK] at h;split at h
  ·rcases qd.1 h with rfl | h
   ·exact ⟨x,.inl (by simp),rfl⟩
   ·obtain ⟨w,hw,e⟩:=ztK h;rcases hw with hw | hw
    ·exact ⟨w,.inl (by simp [hw]),e⟩
    ·exact ⟨w,.inr hw,e⟩
  ·split at h
   ·rcases qd.1 h with rfl | h
    ·exact ⟨x,.inr (by simp),rfl⟩
    ·obtain ⟨w,hw,e⟩:=ztK h;rcases hw with hw | hw
     ·exact ⟨w,.inl hw,e⟩
     ·exact ⟨w,.inr (by simp [hw]),e⟩
   ·rcases qd.1 h with rfl | h
    ·exact ⟨y,.inl (by simp),by split <;>rfl⟩
    ·obtain ⟨w,hw,e⟩:=ztK h;rcases hw with hw | hw
     ·exact ⟨w,.inl (by simp [hw]),e⟩
     ·exact ⟨w,.inr (by simp [hw]),e⟩
termination_by a b=>a.length+b.length
theorem zJZ:∀ (a b:yC),(zbK a b).length<=a.length+b.length
 | [],b=>by rw [zbK]; simp
 | y::a,[]=>by rw [zbK]; simp
 | y::a,z::b=>by
  rw [zbK];split
  ·have:=zJZ a (z::b); simp only [qf] at this ⊢; omega
  ·split
   ·have:=zJZ (y::a) b; simp only [qf] at this ⊢; omega
   ·have:=zJZ a b; simp only [qf] at this ⊢; omega
termination_by a b=>a.length+b.length
theorem zKw {x:Fc} {B:Int}:∀ {a b:yC},(∀ y∈a,1<=y.Exp/\y.Exp<=B)->(∀ y∈b,1<=y.Exp/\y.Exp<=B)->x∈zbK a b->1<=x.Exp/\x.Exp<=2*B
 | [],b,ha,hb,h=>by rw [zbK] at h; have:=hb x h; omega
 | y::a,[],ha,hb,h=>by rw [zbK] at h; have:=ha x h; omega
 | y::a,z::b,ha,hb,h=>by
  have hy:=ha y (by simp)
  have hz:=hb z (by simp)
  rw [zbK] at h;split at h
  ·rcases qd.1 h with rfl | h
   ·omega
   ·exact zKw (λw hw=>ha w (by simp [hw])) hb h
  ·split at h
   ·rcases qd.1 h with rfl | h
    ·omega
    ·exact zKw ha (λw hw=>hb w (by simp [hw])) h
   ·rcases qd.1 h with rfl | h
    ·split
     ·omega
     ·simp only; omega
    ·exact zKw (λw hw=>ha w (by simp [hw])) (λw hw=>hb w (by simp [hw])) h
termination_by a b=>a.length+b.length
def zyY (a b:Int):Int:=if Int.tdiv 1152921504606846976 b<a then 1152921504606846976 else a*b
def zlS (x y:Term):Term:=⟨zyY x.Cf y.Cf,zbK x.Fs y.Fs⟩
def zf3 (a b:yB):yB:=a.flatMap λx=>b.map (zlS x)
def zt3 (a b:yB):yB:=zeO [] (zf3 a b)
theorem z2S {a b:Int} (ha:1<=a/\a<=1152921504606846976) (hb:1<=b/\b<=1152921504606846976):(1<=zyY a b/\zyY a b<=1152921504606846976)/\(¬ Int.tdiv 1152921504606846976 b<a->a*b<=1152921504606846976):=by
 have h1:¬ Int.tdiv 1152921504606846976 b<a->a*b<=1152921504606846976:=λh=>by
  rw [Int.tdiv_eq_ediv_of_nonneg (by omega)] at h
  have h2:a<=1152921504606846976 / b:=by omega
  exact (Int.le_ediv_iff_mul_le (by omega)).1 h2
 refine ⟨?_,h1⟩;unfold zyY;split
 ·omega
 ·rename_i h;refine ⟨?_,h1 h⟩;have:=Int.mul_le_mul ha.1 hb.1 (by omega) (by omega)
  omega
theorem z5G {t:Term} {a b:yB} (h:t∈zf3 a b):∃ x∈a,∃ y∈b,t=zlS x y:=by
 obtain ⟨x,hx,ht⟩:=List.mem_flatMap.1 h;obtain ⟨y,hy,rfl⟩:=List.mem_map.1 ht;exact ⟨x,hx,y,hy,rfl⟩
theorem zV1 (a b:yB):(zf3 a b).length=a.length*b.length:=by
 unfold zf3;induction a with
 | nil=>simp
 | cons x r ih=>rw [List.flatMap_cons,qg,ih,List.length_map,qf,Nat.add_mul]; omega
end Go.Proofs.YtoknknbmfmddbaaGreatDoor
end
