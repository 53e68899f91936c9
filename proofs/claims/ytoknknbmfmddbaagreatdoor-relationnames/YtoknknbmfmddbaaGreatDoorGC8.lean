/- Texts of this claim, joined (the program, its functions in plain words, and what they compute). -/
import Derived.Test.YtoknknbmfmddbaaGreatDoorGC7
set_option autoImplicit false
set_option linter.unusedVariables false
set_option linter.unusedSectionVars false
set_option linter.unusedSimpArgs false
set_option maxRecDepth 1000000
set_option maxHeartbeats 0
/- Which annotations are valid: both sides compute the same. -/
noncomputable section
namespace Go.Proofs.YtoknknbmfmddbaaGreatDoor
open Go Go.Ab
def rz (r:RowID):Bool:=r.Table==(0:Int)&&(r.Seq==(0:Int)&&true)
def zpX (V:yB->Bool) (l:yA):Bool:=l.all λa=>V a&& !(a.length==0)
def zAM (V:yB->Bool) (l:yD):Bool:=l.all λw=>V w.Ann&& !(w.Ann.length==0)
def zw1 (r:RowID):Bool:=decide (r.Table≥1)&&decide (r.Seq≥1)
def zEu (p:yB->Bool):yA->Bool
 | [a]=>p a
 | _=>false
def z1A (p:yB->yB->Bool):yA->Bool
 | [a,b]=>p a b
 | _=>false
def zdU (V:yB->Bool) (x:At):Bool:=
 zpX V x.Ag&&
 if x.Kind=0 then plA x&&zw1 x.Row&&(x.Ag.length==0)
 else rz x.Row&&
  if x.Kind=1 then plA x&&z1A (λa b=> !decide (a=b)) x.Ag
  else if x.Kind=2 then plA x&&zEu (λa=> !isC a&& !isU a) x.Ag
  else if x.Kind=3 then plA x&&zEu (λa=> !zwm a) x.Ag
  else if x.Kind=4 then (x.Ag.length==0)&&decide (0<x.Items.length)&&zAM V x.Items&&zUL x.Items&&zzh x.Func x.Items x.Op x.Bd
  else false
def zMk (vat:At->Bool) (fs:yC) (k:Nat):Bool:=
 decide (1<=(fs.getD k default).Exp)&& !(((fs.getD k default).At.Kind==3||(fs.getD k default).At.Kind==4)&&(fs.getD k default).Exp != 1)&&
  (decide (k=0)||decide (zbb (zdN (fs.getD (k - 1) default).At) (zdN (fs.getD k default).At)<0))&&vat (fs.getD k default).At
def okF (vat:At->Bool) (fs:yC):Bool:=zeo (zMk vat fs) fs.length 0
def zBz (vat:At->Bool) (a:yB) (i:Nat):Bool:=
 decide (1<=(a.getD i default).Cf)&&decide ((a.getD i default).Cf<=1152921504606846976)&&
  (decide (i=0)||decide (zbs (zbv (a.getD (i - 1) default).Fs) (zbv (a.getD i default).Fs)<0))&&okF vat (a.getD i default).Fs
def zwH (vat:At->Bool) (a:yB):Bool:=ze0 a&&zeo (zBz vat a) a.length 0
def zbz:Nat->yB->Bool
 | 0,_=>false
 | n+1,a=>zwH (zdU (zbz n)) a
theorem zBA (r:RowID):zp8 r=(true,zw1 r):=by
 unfold zp8 zNA zw1;rw [Wy.fin_i,Wy.fin_k,Wy.fin_k];cases decide (r.Table≥1) <;>rfl
theorem zBK {V:yB->Bool} {x:At} (h:zdU V x=true):0<=x.Kind/\x.Kind<=4:=by
 unfold zdU at h;by_cases h0:x.Kind=0
 ·omega
 by_cases h1:x.Kind=1
 ·omega
 by_cases h2:x.Kind=2
 ·omega
 by_cases h3:x.Kind=3
 ·omega
 by_cases h4:x.Kind=4
 ·omega
 simp [h0,h1,h2,h3,h4] at h
theorem zrA (l k:Nat):((Int.ofNat l)==(k:Int))=(l==k):=by
 rw [zga,zYW]; congr 1; simp; omega
section
variable (V:yB->Bool) (gW:yD->Bool×Bool) (gA:yA->Bool×Bool) (c1:yB->Bool×Bool) (c2:Wd->Bool×Bool)
theorem z13 (x:At) {d:Nat} (hx:zc0 (zo d) x) (hd:d<=99) (hA:gA x.Ag=(true, !zpX V x.Ag)) (hW:gW x.Items=(true, !zAM V x.Items)):
  ziY gA c1 gW c2 x=(true,zdU V x):=by
 have hS:=z8v x.Items hx.1.2.1 (λw hw=>(hx.2.2 w hw).2) hd
 have hF:=z0f x.Func x.Items x.Op x.Bd hx.1.2.1;have hE:∀ a∈x.Ag,∀ b,zhA a b=(true,decide (a=b)):=λa ha b=>zDa (hx.2.1 a ha) (by omega) b
 have hC:∀ a∈x.Ag,zeI a=(true,zwm a):=λa ha=>zPe a (by
  have:=hx.2.1 a ha;cases d with
  | zero=>exact this.elim
  | succ d=>have:=this.1; omega)
 obtain ⟨k,r,l,f,its,o,b⟩:=x;simp only at hA hW hS hF hE hC;unfold ziY zb7 zdU plA;simp only [zBA,hA,hW,hS,hF,Wy.fin_i,Wy.fin_k,Wy.fin_bn,cond_true]
 rw [show (b.Kind==(0:Int)&&(b.Int==(0:Int)&&(b.Text.toList==(ByteArray.mk #[]).toList&&true)))=bz b from rfl,
  show (r.Table==(0:Int)&&(r.Seq==(0:Int)&&true))=rz r from rfl,
  show (Int.ofNat its.length != 0)= !(its.length==0) from congrArg not (zrA its.length 0),show (f != 0)= !(f==0) from rfl,show (o != 0)= !(o==0) from rfl]
 generalize zpX V l=A at *;generalize zAM V its=W at *;generalize bz b=B at *;generalize (f==0)=F at *;generalize (o==0)=O at *;generalize rz r=R at *;generalize zw1 r=RO at *;generalize zUL its=S at *;generalize zzh f its o b=K at *;have hgt:decide (Int.ofNat its.length>0)=decide (0<its.length):=zjD its.length 0;rw [hgt];generalize (its.length==0)=I at *;generalize decide (0<its.length)=J at *;by_cases h0:k=0
 ·subst h0;simp only [zrA,show ((Int.ofNat l.length)==(0:Int))=(l.length==0) from zrA l.length 0]
  generalize (l.length==0)=L;cases F <;>cases I <;>cases O <;>cases B <;>cases A <;>cases RO <;>rfl
 by_cases h1:k=1
 ·subst h1
  match l,hE with
  | [],_=>cases F <;>cases I <;>cases O <;>cases B <;>cases A <;>cases R <;>rfl
  | [u],_=>cases F <;>cases I <;>cases O <;>cases B <;>cases A <;>cases R <;>rfl
  | [u,v],hE=>
   have e:=hE u (by simp) v
   simp only [List.getD,qf,List.length_nil,Int.toNat_zero,List.getElem?_cons_zero,List.getElem?_cons_succ,Option.getD,show Int.toNat 1=1 from rfl,z1A]
   simp only [e];generalize decide (u=v)=E;cases F <;>cases I <;>cases O <;>cases B <;>cases A <;>cases R <;>rfl
  | u::v::w::l,_=>
   have e:((Int.ofNat (u::v::w::l).length)==(2:Int))=false:=by rw [beq_eq_false_iff_ne]; simp; omega
   simp only [e];cases F <;>cases I <;>cases O <;>cases B <;>cases A <;>cases R <;>rfl
 by_cases h2:k=2
 ·subst h2
  match l with
  | []=>cases F <;>cases I <;>cases O <;>cases B <;>cases A <;>cases R <;>rfl
  | [u]=>
   simp only [List.getD,qf,List.length_nil,Int.toNat_zero,List.getElem?_cons_zero,Option.getD,zEu,zRr,z3J];generalize isC u=E;generalize isU u=E';cases F <;>cases I <;>cases O <;>cases B <;>cases A <;>cases R <;>cases E <;>cases E' <;>rfl
  | u::v::l=>
   simp only [zMM];cases F <;>cases I <;>cases O <;>cases B <;>cases A <;>cases R <;>rfl
 by_cases h3:k=3
 ·subst h3
  match l,hC with
  | [],_=>cases F <;>cases I <;>cases O <;>cases B <;>cases A <;>cases R <;>rfl
  | [u],hC=>
   have e:=hC u (by simp)
   simp only [List.getD,qf,List.length_nil,Int.toNat_zero,List.getElem?_cons_zero,Option.getD,zEu];simp only [e];generalize zwm u=E;cases F <;>cases I <;>cases O <;>cases B <;>cases A <;>cases R <;>cases E <;>rfl
  | u::v::l,_=>
   simp only [zMM];cases F <;>cases I <;>cases O <;>cases B <;>cases A <;>cases R <;>rfl
 by_cases h4:k=4
 ·subst h4;simp only [show ((Int.ofNat l.length)==(0:Int))=(l.length==0) from zrA l.length 0]
  generalize (l.length==0)=L;cases A <;>cases W <;>cases L <;>cases J <;>cases S <;>cases K <;>cases R <;>rfl
 simp only [zga,h0,h1,h2,h3,h4,decide_false,if_false,cond_false];cases F <;>cases I <;>cases O <;>cases B <;>cases A <;>cases R <;>rfl
end
section
variable (V:yB->Bool) (g:yB->Bool×Bool)
theorem zbgD (x:At) (hl:x.Ag.length<=1000000) (hg:∀ a∈x.Ag,g a=(true,V a)) (n:Nat) (hn:x.Ag.length<n):zu8 g n 0 x=(true,bif zpX V x.Ag then .inr x else .inl false):=by
 have:=zcY (W:=zuI g) (z:=.inl default) x.Ag.length (λi=>((),(i:Int),())) (λ_=>(x,())) (λi=>(λa:yB=>V a&& !(a.length==0)) (x.Ag.getD i default)) (.inl false) (.inr x)
  (λi hi H K D=>by
   show (zj6 g i x).ev H K D=_;unfold zj6;have hL:decide ((i:Int)<Int.ofNat x.Ag.length)=true:=by simp [hi]
   simp only [Wy.ev_i,Wy.ev_k,Wy.ev_h,Wy.ev_bn,Wy.ev_d,hL,zea,Bool.and_self,cond_true,Int.toNat_natCast,hg _ (zn hi)];rw [zD (by omega),show (Int.ofNat (x.Ag.getD i default).length==(0:Int))=((x.Ag.getD i default).length==0) from zrA _ 0]
   cases V (x.Ag.getD i default) <;>cases ((x.Ag.getD i default).length==0) <;>rfl)
  (λH K D=>by
   show (zj6 g x.Ag.length x).ev H K D=_;unfold zj6;have hL:decide ((x.Ag.length:Int)<Int.ofNat x.Ag.length)=false:=by simp
   simp only [Wy.ev_i,Wy.ev_k,hL,cond_false]) n hn
 rw [zxq (λa:yB=>V a&& !(a.length==0))] at this
 exact this
theorem z5F {τ:Type} [Inhabited τ] (l:List τ) (i:Nat) (h:i<l.length):List.take 1 (List.drop i l)=[l.getD i default]:=by
 rw [zbf h]; rfl
theorem zbdo (x y:TT):zbs [x] [y]=zbb x y:=by
 simp only [zbs];split
 ·rename_i h; exact h.symm
 ·rfl
theorem zbfI (x:At) {d:Nat} (hx:zc0 (zo d) x) (hd:d<=99) (hg:∀ a∈x.Items,g a.Ann=(true,V a.Ann)) (n:Nat) (hn:x.Items.length<n):zAP g n 0 x=(true,bif zAM V x.Items&&zUL x.Items then .inr () else .inl false):=by
 have hl:x.Items.length<=1000000:=hx.1.2.1
 have:=zcY (W:=ztw g) (z:=.inl default) x.Items.length (λi=>((),(i:Int),())) (λ_=>(x,())) (λi=>(λw:Wd=>V w.Ann&& !(w.Ann.length==0)) (x.Items.getD i default)&&zQv x.Items i) (.inl false) (.inr ())
  (λi hi H K D=>by
   show (zjC g i x).ev H K D=_;unfold zjC;have hL:decide ((i:Int)<Int.ofNat x.Items.length)=true:=by simp [hi]
   simp only [Wy.ev_i,Wy.ev_k,Wy.ev_h,Wy.ev_bn,Wy.ev_d,hL,zea,Bool.and_self,cond_true,Int.toNat_natCast,hg _ (zn hi)];rw [zD (by omega),show (Int.ofNat (x.Items.getD i default).Ann.length==(0:Int))=((x.Items.getD i default).Ann.length==0) from zrA _ 0]
   cases V (x.Items.getD i default).Ann <;>cases ((x.Items.getD i default).Ann.length==0) <;>try rfl
   simp only [cond_true,cond_false,Bool.not_true,Bool.not_false,Bool.and_self,Bool.true_and];cases i with
   | zero=>rfl
   | succ i=>
    have hi':i<x.Items.length:=by omega
    have hw:IntKind.i64.wrap (((i+1:Nat):Int) - 1)=(i:Int):=by rw [zx2 (by omega) (by omega)]; rfl
    have e1:(decide ((0:Int)<=(i:Int))&&decide ((i:Int)<=((i+1:Nat):Int))&&decide (((i+1:Nat):Int)<=Int.ofNat x.Items.length))=true:=by
     simp; try omega
    have e2:(decide (((i+1:Nat):Int)<=((i+1+1:Nat):Int))&&decide (((i+1+1:Nat):Int)<=Int.ofNat x.Items.length))=true:=by
     simp; try omega
    have e3:decide (((i+1:Nat):Int)>0)=true:=by simp; try omega
    simp only [hw,e1,e2,e3,cond_true,Bool.true_and,Int.toNat_natCast,show i+1 - i=1 by omega,show i+1+1 - (i+1)=1 by omega,z5F _ _ hi,z5F _ _ hi']
    rw [zAV (d:=d) (by simp) (λw hw=>by
     rw [qh] at hw; subst hw; exact (hx.2.2 _ (zn hi')).2) hd,zl0,zl0]
    simp only [List.map,zbdo,cond_true,zQv,show i+1 - 1=i from rfl]
    have e4:decide (i+1=0)=false:=by simp
    rw [e4,Bool.false_or];generalize zbb (zbc (x.Items.getD i default)) (zbc (x.Items.getD (i+1) default))=z;by_cases hz:z>0
    ·have:¬ z<=0:=by omega
     simp only [hz,this,decide_true,decide_false,cond_true,cond_false]
    ·have:z<=0:=by omega
     simp only [hz,this,decide_true,decide_false,cond_true,cond_false])
  (λH K D=>by
   show (zjC g x.Items.length x).ev H K D=_;unfold zjC;have hL:decide ((x.Items.length:Int)<Int.ofNat x.Items.length)=false:=by simp
   simp only [Wy.ev_i,Wy.ev_k,hL,cond_false]) n hn
 rw [z7s (λi=>(λw:Wd=>V w.Ann&& !(w.Ann.length==0)) (x.Items.getD i default)),zxq (λw:Wd=>V w.Ann&& !(w.Ann.length==0))] at this
 exact this
theorem zWp {A ρ:Type} (s:A) (k:A->Wy0 ρ) (z:ρ):(Wy.bn (true,s) k).fin z=(k s).fin z:=rfl
theorem z0a (x:At) {d:Nat} (hx:zc0 (zo d) x) (hd:d<=99) (h10:x.Items.length<=1024) (hV:∀ a,V a=true->isB a=isU a) (hgA:∀ a∈x.Ag,g a=(true,V a)) (hgI:∀ a∈x.Items,g a.Ann=(true,V a.Ann)):
  zop g x=(true,zdU V x):=by
 have hS:=λn hn=>zbfI V g x hx hd hgI n hn
 have hA:=λn hn=>zbgD V g x hx.1.1 hgA n hn
 have hF:=z5X x.Func x.Items x.Op x.Bd hx.1.2.1;have hE:∀ a∈x.Ag,∀ b,zoS a b=(true,decide (a=b)):=λa ha b=>zGK (hx.2.1 a ha) (by omega) b
 have hC:∀ a∈x.Ag,zh7 a=(true,zwm a):=λa ha=>zza a (by
  have:=hx.2.1 a ha;cases d with
  | zero=>exact this.elim
  | succ d=>have:=this.1; omega)
 have hP:=zbcK x;unfold zop zDs zdU;obtain ⟨s,hs1,hs2⟩:∃ s,zu8 g (Int.toNat (0:Int)+x.Ag.length+x.Items.length+(1:Nat)) 0 x=(true,s)/\s=bif zpX V x.Ag then .inr x else .inl false:=⟨_,hA _ (by omega),rfl⟩
 rw [At.eta,hP,hs1];simp only [Wy.fin_i,Wy.fin_k,zWp];simp only [Wy.fin_i,Wy.fin_k,Wy.fin_bn,cond_true];rw [show (x.Row.Table==(0:Int)&&(x.Row.Seq==(0:Int)&&true))=rz x.Row from rfl]
 have b0:(x.Kind==(0:Int))=decide (x.Kind=0):=zga _ _;have b1:(x.Kind==(1:Int))=decide (x.Kind=1):=zga _ _;have b2:(x.Kind==(2:Int))=decide (x.Kind=2):=zga _ _;have b3:(x.Kind==(3:Int))=decide (x.Kind=3):=zga _ _;have b4:(x.Kind==(4:Int))=decide (x.Kind=4):=zga _ _;by_cases h0:x.Kind=0
 ·rw [b0];simp only [h0,decide_true,cond_true,if_true];rw [show (Int.ofNat x.Ag.length==(0:Int))=(x.Ag.length==0) from zrA _ 0]
  unfold zw1
  match hl:x.Ag with
  | []=>cases decide (x.Row.Table≥1) <;>cases decide (x.Row.Seq≥1) <;>cases plA x <;>rfl
  | u::l=>cases decide (x.Row.Table≥1) <;>cases decide (x.Row.Seq≥1) <;>cases plA x <;>cases zpX V (u::l) <;>rfl
 rw [b0];simp only [h0,decide_false,cond_false,if_false];cases hA:zpX V x.Ag with
 | false=>rw [hs2,hA]; cases rz x.Row <;>rfl
 | true=>
 rw [hA,cond_true] at hs2;have hy:getR s=x:=by rw [hs2]; rfl
 have hy2:isL s=false:=by rw [hs2]; rfl
 rw [hy2];generalize getR s=y at hy ⊢;subst hy;cases rz y.Row with
 | false=>rfl
 | true=>
 simp only [Bool.not_true,cond_false,cond_true,isL,getR,Bool.true_and,At.eta,hP,hF,b1,b2,b3,b4];by_cases h1:y.Kind=1
 ·simp only [h1,decide_true,cond_true,if_true]
  match hl:y.Ag with
  | []=>cases plA y <;>rfl
  | [u]=>cases plA y <;>rfl
  | [u,v]=>
   have e:=hE u (by rw [hl]; simp) v
   simp only [List.getD,qf,List.length_nil,Int.toNat_zero,List.getElem?_cons_zero,List.getElem?_cons_succ,Option.getD,show Int.toNat 1=1 from rfl,z1A]
   simp only [e];generalize decide (u=v)=E;cases plA y <;>rfl
  | u::v::w::l=>
   have e:((Int.ofNat (u::v::w::l).length)==(2:Int))=false:=by rw [beq_eq_false_iff_ne]; simp; omega
   simp only [e];cases plA y <;>rfl
 simp only [h1,decide_false,cond_false,if_false];by_cases h2:y.Kind=2
 ·simp only [h2,decide_true,cond_true,if_true]
  match hl:y.Ag with
  | []=>cases plA y <;>rfl
  | [u]=>
   have e:=hC u (by rw [hl]; simp)
   have eV:V u=true:=by
    rw [hl] at hA;unfold zpX at hA;simp at hA;exact hA.1
   simp only [List.getD,qf,List.length_nil,Int.toNat_zero,List.getElem?_cons_zero,Option.getD,zEu,zLb,e,hV u eV]
   match u with
   | []=>cases plA y <;>rfl
   | [t]=>
    have e1:zwm [t]=(t.Fs.length==0):=by simp [zwm]
    have e2:isC [t]=(t.Fs.length==0):=rfl;rw [e1,e2];cases plA y <;>cases (t.Fs.length==0) <;>cases isU [t] <;>rfl
   | t::s::r=>
    simp only [zMM];cases plA y <;>rfl
  | u::v::l=>
   simp only [zMM];cases plA y <;>rfl
 simp only [h2,decide_false,cond_false,if_false];by_cases h3:y.Kind=3
 ·simp only [h3,decide_true,cond_true,if_true]
  match hl:y.Ag with
  | []=>cases plA y <;>rfl
  | [u]=>
   have e:=hC u (by rw [hl]; simp)
   simp only [List.getD,qf,List.length_nil,Int.toNat_zero,List.getElem?_cons_zero,Option.getD,zEu];simp only [e];cases plA y <;>cases zwm u <;>rfl
  | u::v::l=>
   simp only [zMM];cases plA y <;>rfl
 simp only [h3,decide_false,cond_false,if_false];by_cases h4:y.Kind=4
 ·have e10:decide (Int.ofNat y.Items.length>(1024:Int))=false:=by simp; omega
  rw [hS _ (by omega)]
  rw [e10];simp only [h4,decide_true,cond_true,if_true,cond_false];rw [show (Int.ofNat y.Ag.length != (0:Int))= !(y.Ag.length==0) from congrArg not (zrA y.Ag.length 0),show (Int.ofNat y.Items.length==(0:Int))=(y.Items.length==0) from zrA y.Items.length 0]
  have e11:decide (0<y.Items.length)= !(y.Items.length==0):=by
   rw [zYW];by_cases h:y.Items.length=0
   ·simp [h]
   ·have:0<y.Items.length:=by omega
    simp [h,this]
  rw [e11];cases (y.Ag.length==0) <;>cases (y.Items.length==0) <;>cases zzh y.Func y.Items y.Op y.Bd <;>cases zAM V y.Items <;>cases zUL y.Items <;>rfl
 simp only [h4,decide_false,cond_false,if_false]
end
section
variable (V:yB->Bool) (vat:At->Bool)
theorem V_9 (g:At->Bool×Bool) (a t10:yB) (t11 t12:Int) (t:Term) {d:Nat} (ht:zgu (zo d) t.Fs) (hd:d<=99) (hg:∀ f∈t.Fs,g f.At=(true,vat f.At)) (n:Nat) (hn:t.Fs.length<n):
  ztX g n a t10 t11 t12 t.Fs t.Fs.length 0 t=(true,bif okF vat t.Fs then .inr (a,t10,t11,t12) else .inl false):=by
 have hl:=ht.1
 exact zcY (W:=ztN g) (z:=.inl default) t.Fs.length (λk=>(a,(),t10,t11,t12,t.Fs,(t.Fs.length:Int),(k:Int),())) (λ_=>(t,())) (zMk vat t.Fs) (.inl false) (.inr (a,t10,t11,t12))
  (λk hk H K D=>by
   show (zjA g a t10 t11 t12 t.Fs t.Fs.length k t).ev H K D=_;unfold zjA zMk
   have hgt:decide ((k:Int)>0)= !decide (k=0):=by
    by_cases h:k=0
    ·subst h; rfl
    ·have:0<k:=by omega
     simp [h,this]
   simp only [At.eta,Wy.ev_i,Wy.ev_k,Wy.ev_h,Wy.ev_bn,Wy.ev_d,tT,hk,z2V,hg _ (zn hk),hgt];rw [zD (by omega)]
   have e1:decide ((t.Fs.getD k default).Exp<1)= !decide (1<=(t.Fs.getD k default).Exp):=by
    by_cases h:1<=(t.Fs.getD k default).Exp
    ·have:¬ (t.Fs.getD k default).Exp<1:=by omega
     simp only [h,this,decide_true,decide_false,Bool.not_true]
    ·have:(t.Fs.getD k default).Exp<1:=by omega
     simp only [h,this,decide_true,decide_false,Bool.not_false]
   rw [e1];generalize decide (1<=(t.Fs.getD k default).Exp)=E1;generalize ((t.Fs.getD k default).Exp != 1)=E2;generalize ((t.Fs.getD k default).At.Kind==3||(t.Fs.getD k default).At.Kind==4)=E3;by_cases h0:k=0
   ·simp only [h0,decide_true,Bool.not_true,cond_false,Bool.true_or,Bool.and_true];cases E1 <;>cases E2 <;>cases E3 <;>cases vat (t.Fs.getD 0 default).At <;>rfl
   ·have hp:IntKind.i64.wrap ((k:Int) - 1)=((k - 1:Nat):Int):=zx2 (by omega) (by omega)
    have hk':k - 1<t.Fs.length:=by omega
    have hfx:zc0 (zo d) (t.Fs.getD (k - 1) default).At:=ht.2 _ (zn hk')
    have e2:∀ z:Int,decide (z≥0)= !decide (z<0):=λz=>by
     by_cases h:z<0
     ·have:¬ z≥0:=by omega
      simp [h,this]
     ·have:z≥0:=by omega
      simp [h,this]
    simp only [h0,hp,tT,hk',zv6 hfx hd,e2,Bool.false_or];generalize decide (zbb (zdN (t.Fs.getD (k - 1) default).At) (zdN (t.Fs.getD k default).At)<0)=E4;cases E1 <;>cases E2 <;>cases E3 <;>cases E4 <;>cases vat (t.Fs.getD k default).At <;>rfl)
  (λH K D=>by
   show (zjA g a t10 t11 t12 t.Fs t.Fs.length t.Fs.length t).ev H K D=_;unfold zjA;simp only [Wy.ev_i,Wy.ev_k,tT,Nat.lt_irrefl]) n hn
theorem V_4 (g:At->Bool×Bool) (a:yB) {d:Nat} (h:zo (d+1) a) (hd:d<=99) (hg:∀ t∈a,∀ f∈t.Fs,g f.At=(true,vat f.At)) (n:Nat) (hn:a.length<n):
  zA7 g n a a a.length 0=(true,bif zeo (zBz vat a) a.length 0 then .inr () else .inl false):=by
 have hl:=h.1
 exact zcY (W:=ztL g) (z:=.inl default) a.length (λk=>(a,a,(a.length:Int),(k:Int),())) (λ_=>()) (zBz vat a) (.inl false) (.inr ())
  (λk hk H K D=>by
   show (zjF g a a a.length k).ev H K D=_;unfold zjF zBz;have ht:=h.2 _ (zn hk)
   have hgt:decide ((k:Int)>0)= !decide (k=0):=by
    by_cases h:k=0
    ·subst h; rfl
    ·have:0<k:=by omega
     simp [h,this]
   simp only [At.eta,Wy.ev_i,Wy.ev_k,Wy.ev_h,Wy.ev_bn,Wy.ev_d,tT,hk,hgt];rw [V_9 vat g a a a.length k _ ht hd (hg _ (zn hk)) _ (by omega)]
   have e1:decide ((a.getD k default).Cf<1)= !decide (1<=(a.getD k default).Cf):=by
    by_cases h:1<=(a.getD k default).Cf
    ·have:¬ (a.getD k default).Cf<1:=by omega
     simp only [h,this,decide_true,decide_false,Bool.not_true]
    ·have:(a.getD k default).Cf<1:=by omega
     simp only [h,this,decide_true,decide_false,Bool.not_false]
   have e3:decide ((a.getD k default).Cf>1152921504606846976)= !decide ((a.getD k default).Cf<=1152921504606846976):=by
    by_cases h:(a.getD k default).Cf<=1152921504606846976
    ·have:¬ (a.getD k default).Cf>1152921504606846976:=by omega
     simp only [h,this,decide_true,decide_false,Bool.not_true]
    ·have:(a.getD k default).Cf>1152921504606846976:=by omega
     simp only [h,this,decide_true,decide_false,Bool.not_false]
   rw [e1,e3];generalize decide (1<=(a.getD k default).Cf)=E1;generalize decide ((a.getD k default).Cf<=1152921504606846976)=E2;by_cases h0:k=0
   ·subst h0;simp only [decide_true,Bool.not_true,cond_false,Bool.true_or,Bool.and_true];cases okF vat (a.getD 0 default).Fs <;>cases E1 <;>cases E2 <;>try rfl
   ·have hp:IntKind.i64.wrap ((k:Int) - 1)=((k - 1:Nat):Int):=zx2 (by omega) (by omega)
    have hk':k - 1<a.length:=by omega
    have hfx:zgu (zo d) (a.getD (k - 1) default).Fs:=h.2 _ (zn hk')
    have e2:∀ z:Int,decide (z≥0)= !decide (z<0):=λz=>by
     by_cases h:z<0
     ·have:¬ z≥0:=by omega
      simp [h,this]
     ·have:z≥0:=by omega
      simp [h,this]
    simp only [h0,hp,tT,hk',zvN hfx hd,e2,Bool.false_or];generalize decide (zbs (zbv (a.getD (k - 1) default).Fs) (zbv (a.getD k default).Fs)<0)=E4;cases okF vat (a.getD k default).Fs <;>cases E1 <;>cases E2 <;>cases E4 <;>try rfl
    simp only [cond_true,cond_false,Bool.not_true,isL,getR,Bool.and_self];rw [zD (by omega),decide_eq_false (show ¬ ((k - 1:Nat):Int)<0 by omega)]; rfl)
  (λH K D=>by
   show (zjF g a a a.length a.length).ev H K D=_;unfold zjF;simp only [Wy.ev_i,Wy.ev_k,tT,Nat.lt_irrefl]) n hn
theorem zbaL (g:At->Bool×Bool) (a:yB) {d:Nat} (h:zo (d+1) a) (hd:d<=99) (hs:zN a<=4611686018427387904) (hg:∀ t∈a,∀ f∈t.Fs,g f.At=(true,vat f.At)):zmJ g a=(true,zwH vat a):=by
 unfold zmJ zB3 zwH;have:=V_4 vat g a h hd hg (a.length+a.length+(Int.ofNat a.length).toNat +Int.toNat (0:Int)+(1:Nat)) (by omega)
 rw [show Int.ofNat a.length=(a.length:Int) from rfl] at *
 simp only [Wy.fin_i,Wy.fin_k,Wy.fin_bn,z3Q h (by omega) hs,this,cond_true]
 cases ze0 a <;>cases zeo (zBz vat a) a.length 0 <;>rfl
theorem zbgz (g:At->Bool×Bool) (a:yB) (i:Int) (t:Term) {d:Nat} (ht:zgu (zo d) t.Fs) (hd:d<=99) (hg:∀ f∈t.Fs,g f.At=(true,vat f.At)) (hk:∀ x,vat x=true->0<=x.Kind/\x.Kind<=4) (n:Nat) (hn:t.Fs.length<n):
  zyW g n a i 0 t=(true,bif okF vat t.Fs then .inr (a,i) else .inl false):=by
 have hl:=ht.1
 exact zcY (W:=zyX g) (z:=.inl default) t.Fs.length (λk=>(a,i,(),(k:Int),())) (λ_=>(t,())) (zMk vat t.Fs) (.inl false) (.inr (a,i))
  (λk hk1 H K D=>by
   show (zoj g a i k t).ev H K D=_;unfold zoj zMk
   have hgt:decide ((k:Int)>0)= !decide (k=0):=by
    by_cases h:k=0
    ·subst h; rfl
    ·have:0<k:=by omega
     simp [h,this]
   simp only [At.eta,Wy.ev_i,Wy.ev_k,Wy.ev_h,Wy.ev_bn,Wy.ev_d,tT,hk1,hg _ (zn hk1),hgt];rw [zD (by omega)]
   have hk2:=hk (t.Fs.getD k default).At
   have e1:decide ((t.Fs.getD k default).Exp<1)= !decide (1<=(t.Fs.getD k default).Exp):=by
    by_cases h:1<=(t.Fs.getD k default).Exp
    ·have:¬ (t.Fs.getD k default).Exp<1:=by omega
     simp only [h,this,decide_true,decide_false,Bool.not_true]
    ·have:(t.Fs.getD k default).Exp<1:=by omega
     simp only [h,this,decide_true,decide_false,Bool.not_false]
   rw [e1];by_cases hx1:1<=(t.Fs.getD k default).Exp
   rotate_left
   ·simp only [hx1,decide_false,Bool.not_false,cond_true,Bool.false_and,cond_false]
   cases hv:vat (t.Fs.getD k default).At with
   | false=>
    rw [Bool.and_false];cases decide (1<=(t.Fs.getD k default).Exp) <;>cases decide ((t.Fs.getD k default).Exp>1) <;>cases decide ((t.Fs.getD k default).At.Kind≥3) <;>rfl
   | true=>
   obtain ⟨k1,k2⟩:=hk2 hv
   have e5:((t.Fs.getD k default).At.Kind==3||(t.Fs.getD k default).At.Kind==4)=decide ((t.Fs.getD k default).At.Kind≥3):=by
    rw [zga,zga, <- Bool.decide_or];congr 1;apply propext; omega
   have e6:((t.Fs.getD k default).Exp != 1)=decide ((t.Fs.getD k default).Exp>1):=by
    rw [zsY, <- decide_not];congr 1;apply propext; omega
   rw [e5,e6];simp only [hx1,decide_true,Bool.not_true,cond_false,Bool.true_and];generalize decide ((t.Fs.getD k default).Exp>1)=E2;generalize decide ((t.Fs.getD k default).At.Kind≥3)=E3;by_cases h0:k=0
   ·simp only [h0,decide_true,Bool.not_true,cond_false,Bool.true_or,Bool.and_true];cases E2 <;>cases E3 <;>rfl
   ·have hp:IntKind.i64.wrap ((k:Int) - 1)=((k - 1:Nat):Int):=zx2 (by omega) (by omega)
    have hk':k - 1<t.Fs.length:=by omega
    have hfx:zc0 (zo d) (t.Fs.getD (k - 1) default).At:=ht.2 _ (zn hk')
    have e2:∀ z:Int,decide (z≥0)= !decide (z<0):=λz=>by
     by_cases h:z<0
     ·have:¬ z≥0:=by omega
      simp [h,this]
     ·have:z≥0:=by omega
      simp [h,this]
    simp only [h0,hp,tT,hk',zuH hfx hd,e2,Bool.false_or];generalize decide (zbb (zdN (t.Fs.getD (k - 1) default).At) (zdN (t.Fs.getD k default).At)<0)=E4;cases E2 <;>cases E3 <;>cases E4 <;>rfl)
  (λH K D=>by
   show (zoj g a i t.Fs.length t).ev H K D=_;unfold zoj;simp only [Wy.ev_i,Wy.ev_k,tT,Nat.lt_irrefl]) n hn
theorem zbgW (g:At->Bool×Bool) (a:yB) {d:Nat} (h:zo (d+1) a) (hd:d<=99) (hg:∀ t∈a,∀ f∈t.Fs,g f.At=(true,vat f.At)) (hk:∀ x,vat x=true->0<=x.Kind/\x.Kind<=4) (n:Nat) (hn:a.length<n):
  zIt g n a 0=(true,bif zeo (zBz vat a) a.length 0 then .inr () else .inl false):=by
 have hl:=h.1
 exact zcY (W:=zAh g) (z:=.inl default) a.length (λk=>(a,(k:Int),())) (λ_=>()) (zBz vat a) (.inl false) (.inr ())
  (λk hk1 H K D=>by
   show (zp3 g a k).ev H K D=_;unfold zp3 zBz;have ht:=h.2 _ (zn hk1)
   have hgt:decide ((k:Int)>0)= !decide (k=0):=by
    by_cases h:k=0
    ·subst h; rfl
    ·have:0<k:=by omega
     simp [h,this]
   simp only [At.eta,Wy.ev_i,Wy.ev_k,Wy.ev_h,Wy.ev_bn,Wy.ev_d,tT,hk1,hgt];rw [zbgz vat g a k _ ht hd (hg _ (zn hk1)) hk _ (by omega)]
   have e1:decide ((a.getD k default).Cf<1)= !decide (1<=(a.getD k default).Cf):=by
    by_cases h:1<=(a.getD k default).Cf
    ·have:¬ (a.getD k default).Cf<1:=by omega
     simp only [h,this,decide_true,decide_false,Bool.not_true]
    ·have:(a.getD k default).Cf<1:=by omega
     simp only [h,this,decide_true,decide_false,Bool.not_false]
   have e3:decide ((a.getD k default).Cf>1152921504606846976)= !decide ((a.getD k default).Cf<=1152921504606846976):=by
    by_cases h:(a.getD k default).Cf<=1152921504606846976
    ·have:¬ (a.getD k default).Cf>1152921504606846976:=by omega
     simp only [h,this,decide_true,decide_false,Bool.not_true]
    ·have:(a.getD k default).Cf>1152921504606846976:=by omega
     simp only [h,this,decide_true,decide_false,Bool.not_false]
   rw [e1,e3];generalize decide (1<=(a.getD k default).Cf)=E1;generalize decide ((a.getD k default).Cf<=1152921504606846976)=E2;by_cases h0:k=0
   ·subst h0;simp only [decide_true,Bool.not_true,cond_false,Bool.true_or,Bool.and_true];cases okF vat (a.getD 0 default).Fs <;>cases E1 <;>cases E2 <;>try rfl
   ·have hp:IntKind.i64.wrap ((k:Int) - 1)=((k - 1:Nat):Int):=zx2 (by omega) (by omega)
    have hk':k - 1<a.length:=by omega
    have hfx:zgu (zo d) (a.getD (k - 1) default).Fs:=h.2 _ (zn hk')
    have e2:∀ z:Int,decide (z≥0)= !decide (z<0):=λz=>by
     by_cases h:z<0
     ·have:¬ z≥0:=by omega
      simp [h,this]
     ·have:z≥0:=by omega
      simp [h,this]
    simp only [h0,hp,tT,hk',zq7 hfx hd,e2,Bool.false_or];generalize decide (zbs (zbv (a.getD (k - 1) default).Fs) (zbv (a.getD k default).Fs)<0)=E4;cases okF vat (a.getD k default).Fs <;>cases E1 <;>cases E2 <;>cases E4 <;>try rfl
    simp only [cond_true,cond_false,Bool.not_true,isL,getR,Bool.and_self];rw [zD (by omega),decide_eq_false (show ¬ ((k - 1:Nat):Int)<0 by omega)]; rfl)
  (λH K D=>by
   show (zp3 g a a.length).ev H K D=_;unfold zp3;simp only [Wy.ev_i,Wy.ev_k,tT,Nat.lt_irrefl]) n hn
theorem z8B (g:At->Bool×Bool) (a:yB) {d:Nat} (h:zo (d+1) a) (hd:d<=99) (hs:zN a<=4611686018427387904) (hg:ze0 a=true->∀ t∈a,∀ f∈t.Fs,g f.At=(true,vat f.At)) (hk:∀ x,vat x=true->0<=x.Kind/\x.Kind<=4):zvS g a=(true,zwH vat a):=by
 unfold zvS zLf zwH;rw [Wy.fin_bn,z8U h (by omega) hs]
 cases hw:ze0 a with
 | false=>rfl
 | true=>
  have:=zbgW vat g a h hd (hg hw) hk ((a.length+Int.toNat (0:Int)+(1:Nat))+zdY a) (by omega)
  simp only [Wy.fin_i,Wy.fin_k,Wy.fin_bn,this,cond_true];cases zeo (zBz vat a) a.length 0 <;>rfl
end
theorem zYe {l:yA} {a:yB} (h:a∈l):zN a<=zeM l:=by
 induction l with
 | nil=>cases h
 | cons b r ih=>
  rw [zeA];rcases qd.1 h with rfl | h
  ·omega
  ·have:=ih h; omega
theorem zVh {l:yD} {w:Wd} (h:w∈l):zN w.Ann<=zc3 l:=by
 induction l with
 | nil=>cases h
 | cons b r ih=>
  rw [zhS];rcases qd.1 h with rfl | h
  ·omega
  ·have:=ih h; omega
theorem zUN {m:Nat} {a:yB} (h:zbz m a=true):isB a=isU a:=by
 cases m with
 | zero=>cases h
 | succ m=>
 match a with
 | []=>rfl
 | [t]=>
  simp only [zbz,zwH,qc] at h;have h1:=zdP.1 h.2 0 (by omega) (by simp)
  simp only [zBz,qc] at h1;have h2:=h1.2;obtain ⟨c,fs⟩:=t
  match fs with
  | []=>rfl
  | [f]=>
   have h3:=zdP.1 h2 0 (by omega) (by simp)
   simp only [zMk,qc] at h3;have h4:=zBK h3.2;simp only [List.getD_cons_zero] at h4;show (c==1&&(f.Exp==1&&decide (2<=f.At.Kind)))=(c==1&&(f.Exp==1&&(f.At.Kind==2||f.At.Kind==3||f.At.Kind==4)))
   have e:decide (2<=f.At.Kind)=(f.At.Kind==2||f.At.Kind==3||f.At.Kind==4):=by
    rw [zga,zga,zga, <- Bool.decide_or, <- Bool.decide_or];congr 1;apply propext; omega
   rw [e]
  | f::f'::r=>rfl
 | t::u::r=>rfl
theorem zbgo (g) (l:yA):zcy g l=IG (λ(_:Unit) x=>g x) (l.length+(Int.ofNat l.length).toNat +Int.toNat (0:Int)+(1:Nat)) () l:=rfl
theorem zbgm (g) (l:yD):zcS g l=IG (λ(_:Unit) x=>g x) (l.length+(Int.ofNat l.length).toNat +Int.toNat (0:Int)+(1:Nat)) () l:=rfl
theorem zLD:∀ n,
  (∀ d m a,zo d a->10*d<=n->d<=m->d<=100->zN a<=4611686018427387904->zjB n a=(true,zbz m a))/\
  (∀ d m x,zc0 (zo d) x->10*d+9<=n->d<=m->d<=99->zeR x<=4611686018427387904->zl2 n x=(true,zdU (zbz m) x))/\
  (∀ d m a,zo d a->10*d+6<=n->d<=m->d<=99->zN a<=4611686018427387904->zeS n a=(true, !(zbz m a&& !(a.length==0))))/\
  (∀ d m (w:Wd),zo d w.Ann->10*d+6<=n->d<=m->d<=99->zN w.Ann<=4611686018427387904->zeP n w=(true, !(zbz m w.Ann&& !(w.Ann.length==0))))/\
  (∀ d m (l:yA),l.length<=1000000->(∀ a∈l,zo d a/\zN a<=4611686018427387904)->10*d+7<=n->d<=m->d<=99->zcA n l=(true,ixf (λa=> !(zbz m a&& !(a.length==0))) l 0))/\
  (∀ d m (l:yA),l.length<=1000000->(∀ a∈l,zo d a/\zN a<=4611686018427387904)->10*d+8<=n->d<=m->d<=99->zci n l=(true, !zpX (zbz m) l))/\
  (∀ d m (l:yD),l.length<=1000000->(∀ a∈l,zo d a.Ann/\zN a.Ann<=4611686018427387904)->10*d+7<=n->d<=m->d<=99->zcW n l=(true,ixf (λa=> !(zbz m a.Ann&& !(a.Ann.length==0))) l 0))/\
  (∀ d m (l:yD),l.length<=1000000->(∀ a∈l,zo d a.Ann/\zN a.Ann<=4611686018427387904)->10*d+8<=n->d<=m->d<=99->zcD n l=(true, !zAM (zbz m) l))
 | 0=>by
  refine ⟨?_, ?_, ?_, ?_, ?_, ?_, ?_, ?_⟩
  ·intro d m a h hd; have:d=0:=by omega
   subst this; exact h.elim
  all_goals (intros; omega)
 | n+1=>by
  obtain ⟨h1,h2,h3,h4,h5,h6,h7,h8⟩:=zLD n;refine ⟨?_, ?_, ?_, ?_, ?_, ?_, ?_, ?_⟩
  ·intro d m a h hd hm hd2 hs;cases d with
   | zero=>exact h.elim
   | succ d=>
    cases m with
    | zero=>omega
    | succ m=>
     rw [zOI]
     exact zbaL _ _ a h (by omega) hs λt ht f hf=>h2 d m f.At ((h.2 t ht).2 f hf) (by omega) (by omega) (by omega) (by
      have:=z2Y ht hf; rw [zgS]; omega)
  ·intro d m x h hd hm hd2 hs;rw [zHI];rw [zgS] at hs
   exact z13 _ _ _ _ _ x h hd2 (h6 d m _ h.1.1 (λa ha=>⟨h.2.1 a ha,by have:=zYe ha; omega⟩) (by omega) hm hd2)
    (h8 d m _ h.1.2.1 (λa ha=>⟨(h.2.2 a ha).2,by have:=zVh ha; omega⟩) (by omega) hm hd2)
  ·intro d m a h hd hm hd2 hs;rw [zDx];unfold zjR zuv;rw [Wy.fin_bn,h1 d m a h (by omega) hm (by omega) hs]
   simp only [cond_true,Wy.fin_i,Wy.fin_k,show (Int.ofNat a.length==(0:Int))=(a.length==0) from zrA a.length 0]
   cases zbz m a <;>simp
  ·intro d m a h hd hm hd2 hs;rw [zDX];unfold zjL zur;rw [Wy.fin_bn,h1 d m a.Ann h (by omega) hm (by omega) hs]
   simp only [cond_true,Wy.fin_i,Wy.fin_k,show (Int.ofNat a.Ann.length==(0:Int))=(a.Ann.length==0) from zrA a.Ann.length 0]
   cases zbz m a.Ann <;>simp
  ·intro d m l hl h hd hm hd2;rw [zl1,zbgo];exact zH3 _ _ _ _ _ (by omega) (λx hx=>h3 d m x (h x hx).1 (by omega) hm hd2 (h x hx).2) (by omega)
  ·intro d m l hl h hd hm hd2;rw [zk3];unfold zcl zeY;rw [zj4 (h5 d m l hl h (by omega) hm hd2)]
   simp [zpX,List.all_eq_not_any_not]
  ·intro d m l hl h hd hm hd2;rw [zoo,zbgm];exact zH3 _ _ _ _ _ (by omega) (λx hx=>h4 d m x (h x hx).1 (by omega) hm hd2 (h x hx).2) (by omega)
  ·intro d m l hl h hd hm hd2;rw [zmH];unfold zcB zf2;rw [zj4 (h7 d m l hl h (by omega) hm hd2)]
   simp [zAM,List.all_eq_not_any_not]
theorem z8k {a:yB} (h:ze0 a=true) {t:Term} (ht:t∈a) {f:Fc} (hf:f∈t.Fs):f.At.Items.length<=1024/\f.Exp<=64/\t.Fs.length<=64:=by
 simp only [ze0,qc,List.all_eq_true] at h;have:=h.2 t ht;simp only [zzY,Bool.not_eq_true',Bool.or_eq_false_iff,decide_eq_false_iff_not,List.any_eq_false] at this;have h2:=this.2 f hf;simp at h2;omega
theorem z0n:∀ n,
  (∀ d m a,zo d a->3*d<=n->d<=m->d<=100->zN a<=4611686018427387904->zvJ n a=(true,zbz m a))/\
  (∀ d m x,zc0 (zo d) x->3*d+2<=n->d<=m->d<=99->zeR x<=4611686018427387904->x.Items.length<=1024->ztg n x=(true,zdU (zbz m) x))
 | 0=>by
  refine ⟨?_, ?_⟩
  ·intro d m a h hd; have:d=0:=by omega
   subst this; exact h.elim
  ·intros; omega
 | n+1=>by
  obtain ⟨h1,h2⟩:=z0n n;refine ⟨?_, ?_⟩
  ·intro d m a h hd hm hd2 hs;cases d with
   | zero=>exact h.elim
   | succ d=>
    cases m with
    | zero=>omega
    | succ m=>
     rw [zYx]
     exact z8B _ _ a h (by omega) hs (λhw t ht f hf=>h2 d m f.At ((h.2 t ht).2 f hf) (by omega) (by omega) (by omega) (by
      have:=z2Y ht hf; rw [zgS]; omega) (z8k hw ht hf).1) λx hx=>zBK hx
  ·intro d m x h hd hm hd2 hs h10;rw [zQS];rw [zgS] at hs
   exact z0a _ _ x h hd2 h10 (λa ha=>zUN ha) (λa ha=>h1 d m a (h.2.1 a ha) (by omega) hm (by omega) (by have:=zYe ha; omega))
    λa ha=>h1 d m a.Ann (h.2.2 a ha).2 (by omega) hm (by omega) (by have:=zVh ha; omega)
def zX (a:yB):Bool:=zbz 100 a
theorem z3G {d:Nat} {a:yB} (h:zo d a) (hd:d<=100) (hs:zN a<=4611686018427387904):zb8 a=(true,zX a):=(zLD 1000).1 d 100 a h (by omega) hd hd hs
theorem z0R {d:Nat} {a:yB} (h:zo d a) (hd:d<=100) (hs:zN a<=4611686018427387904):zgr a=(true,zX a):=(z0n 1000).1 d 100 a h (by omega) hd hd hs
def z8u:Wy0 (yB):=.k [TO.mk 1 []]
def zVJ:Bool×yB:=(z8u).fin default
theorem zYh {τ:Type} [Inhabited τ] {l:List τ} {x:τ} (h:x∈l):∃ i,i<l.length/\l.getD i default=x:=by
 obtain ⟨i,hi,e⟩:=List.mem_iff_getElem.1 h;exact ⟨i,hi,by rw [List.getD_eq_getElem?_getD,List.getElem?_eq_getElem hi]; exact e⟩
theorem zE8 {vat:At->Bool} {a:yB} (h:zwH vat a=true):ze0 a=true:=by
 simp only [zwH,qc] at h; exact h.1
theorem zul {vat:At->Bool} {a:yB} (h:zwH vat a=true) {t:Term} (ht:t∈a):(1<=t.Cf/\t.Cf<=1152921504606846976)/\okF vat t.Fs=true:=by
 simp only [zwH,qc] at h;obtain ⟨i,hi,rfl⟩:=zYh ht;have:=zdP.1 h.2 i (by omega) (by omega)
 simp only [zBz,qc,qe] at this;exact ⟨this.1.1,this.2⟩
theorem zoL {vat:At->Bool} {fs:yC} (h:okF vat fs=true) {f:Fc} (hf:f∈fs):(1<=f.Exp/\(f.At.Kind=3\/f.At.Kind=4->f.Exp=1))/\vat f.At=true:=by
 obtain ⟨i,hi,rfl⟩:=zYh hf;have:=zdP.1 h i (by omega) (by omega)
 simp only [zMk,qc,qe] at this;refine ⟨⟨this.1.1.1,λhk=> ?_⟩,this.2⟩
 have h2:=this.1.1.2;rcases hk with hk | hk
 ·rw [hk] at h2; simpa using h2
 ·rw [hk] at h2; simpa using h2
theorem zbes {b:Value} (h:bz b=true):b=⟨0,0,ByteArray.mk #[]⟩:=by
 unfold bz at h;rw [zBh] at h;simp only [qc,beq_iff_eq,qe,and_true] at h;obtain ⟨k,i,t⟩:=b;simp only at h;obtain ⟨rfl,rfl,rfl⟩:=h;rfl
theorem zuA {v:Value} (h:zqt v=true):v.Text.size<=255:=by
 simp only [zqt,Bool.or_eq_true,qc,beq_iff_eq,qe] at h;omega
theorem zPD {x:At} (h:plA x=true):x.Func=0/\x.Items=[]/\x.Op=0/\x.Bd=⟨0,0,ByteArray.mk #[]⟩:=by
 simp only [plA,qc,beq_iff_eq] at h;exact ⟨h.1.1.1,List.length_eq_zero_iff.1 h.1.1.2,h.1.2,zbes h.2⟩
theorem zbdM {r:RowID} (h:rz r=true):r=⟨0,0⟩:=by
 simp only [rz,qc,beq_iff_eq,and_true] at h;obtain ⟨t,s⟩:=r;simp only at h;obtain ⟨rfl,rfl⟩:=h; rfl
inductive VA (V:yB->Bool):At->Prop
 | var (r:RowID) (h:zw1 r=true):VA V ⟨0,r,[],0,[],0,⟨0,0,ByteArray.mk #[]⟩⟩
 | mon (a b:yB) (ha:V a=true) (hb:V b=true) (ha0:a≠[]) (hb0:b≠[]) (h:a≠b):VA V ⟨1,⟨0,0⟩,[a,b],0,[],0,⟨0,0,ByteArray.mk #[]⟩⟩
 | del (a:yB) (ha:V a=true) (ha0:a≠[]) (h:isC a=false) (h':isU a=false):VA V ⟨2,⟨0,0⟩,[a],0,[],0,⟨0,0,ByteArray.mk #[]⟩⟩
 | abs (a:yB) (ha:V a=true) (ha0:a≠[]) (h:zwm a=false):VA V ⟨3,⟨0,0⟩,[a],0,[],0,⟨0,0,ByteArray.mk #[]⟩⟩
 | tst (f:Int) (l:yD) (o:Int) (b:Value) (hl:l≠[]) (hi:∀ w∈l,V w.Ann=true/\w.Ann≠[]) (hs:zUL l=true) (hf:zzh f l o b=true):VA V ⟨4,⟨0,0⟩,[],f,l,o,b⟩
theorem zdl {V:yB->Bool} {x:At}:zdU V x=true↔VA V x:=by
 constructor
 ·intro h;have hk:=zBK h;obtain ⟨k,r,l,f,its,o,b⟩:=x;simp only at hk;unfold zdU at h;simp only [qc] at h;obtain ⟨h1,h2⟩:=h
  have ha:∀ a∈l,V a=true/\a≠[]:=λa ha=>by
   have:=List.all_eq_true.1 h1 a ha;simp only [qc,Bool.not_eq_true',beq_eq_false_iff_ne] at this;exact ⟨this.1,λe=>this.2 (by rw [e]; rfl)⟩
  by_cases h0:k=0
  ·subst h0;simp only [if_true,qc,beq_iff_eq] at h2;obtain ⟨e1,e2,e3,e4⟩:=zPD h2.1.1;simp only at e1 e2 e3 e4;subst e1 e2 e3 e4;obtain rfl:l=[]:=List.length_eq_zero_iff.1 h2.2;exact .var r h2.1.2
  simp only [h0,if_false,qc] at h2;obtain ⟨hr,h2⟩:=h2;have hr':=zbdM hr;subst hr';by_cases h0':k=1
  ·subst h0';simp only [if_true,qc] at h2;obtain ⟨e1,e2,e3,e4⟩:=zPD h2.1;simp only at e1 e2 e3 e4;subst e1 e2 e3 e4
   match l,h2.2,ha with
   | [a,b],h3,ha=>exact .mon a b (ha a (by simp)).1 (ha b (by simp)).1 (ha a (by simp)).2 (ha b (by simp)).2 (by simpa [z1A] using h3)
  simp only [h0',if_false] at h2;by_cases h2':k=2
  ·subst h2';simp only [if_true,qc] at h2;obtain ⟨e1,e2,e3,e4⟩:=zPD h2.1;simp only at e1 e2 e3 e4;subst e1 e2 e3 e4
   match l,h2.2,ha with
   | [a],h3,ha=>
    simp only [zEu,qc,Bool.not_eq_true'] at h3;exact .del a (ha a (by simp)).1 (ha a (by simp)).2 h3.1 h3.2
  simp only [h2',if_false] at h2;by_cases h3':k=3
  ·subst h3';simp only [if_true,qc] at h2;obtain ⟨e1,e2,e3,e4⟩:=zPD h2.1;simp only at e1 e2 e3 e4;subst e1 e2 e3 e4
   match l,h2.2,ha with
   | [a],h3,ha=>
    simp only [zEu,Bool.not_eq_true'] at h3;exact .abs a (ha a (by simp)).1 (ha a (by simp)).2 h3
  simp only [h3',if_false] at h2;have h4':k=4:=by omega
  subst h4';simp only [if_true,qc,beq_iff_eq,qe] at h2;obtain ⟨⟨⟨⟨h3,h4⟩,h5⟩,h6⟩,h7⟩:=h2;obtain rfl:l=[]:=List.length_eq_zero_iff.1 h3
  exact .tst f its o b (λe=>by rw [e] at h4; simp at h4) (λw hw=>by
   have:=List.all_eq_true.1 h5 w hw;simp only [qc,Bool.not_eq_true',beq_eq_false_iff_ne] at this;exact ⟨this.1,λe=>this.2 (by rw [e]; rfl)⟩) h6 h7
 ·intro h
  have ne:∀ a:yB,a≠[]->(a.length==0)=false:=λa ha=>by
   rw [beq_eq_false_iff_ne]; exact λe=>ha (List.length_eq_zero_iff.1 e)
  cases h with
  | var r h=>simp [zdU,zpX,plA,bz,h]
  | mon a b ha hb ha0 hb0 h=>simp [zdU,zpX,plA,bz,rz,z1A,ha,hb,ha0,hb0,h]
  | del a ha ha0 h h'=>simp [zdU,zpX,plA,bz,rz,zEu,ha,ha0,h,h']
  | abs a ha ha0 h=>simp [zdU,zpX,plA,bz,rz,zEu,ha,ha0,h]
  | tst f l o b hl hi hs hf=>
   have h1:zAM V l=true:=List.all_eq_true.2 λw hw=>by rw [(hi w hw).1,ne _ (hi w hw).2]; rfl
   have h2:0<l.length:=by
    cases l with
    | nil=>exact absurd rfl hl
    | cons x r=>simp
   simp [zdU,zpX,rz,h1,hs,hf,h2]
theorem zvh {a:yB} (h:ze0 a=true):a.length<=512/\zbo a<=8/\zN a<=4096/\∀ t∈a,t.Fs.length<=64/\∀ f∈t.Fs,f.Exp<=64/\f.At.Items.length<=1024:=by
 simp only [ze0,qc,List.all_eq_true,qe] at h;refine ⟨h.1.1.1,h.1.1.2,h.1.2,λt ht=> ?_⟩
 have:=h.2 t ht;simp only [zzY,Bool.not_eq_true',Bool.or_eq_false_iff,decide_eq_false_iff_not,List.any_eq_false] at this;refine ⟨by omega,λf hf=> ?_⟩
 have h2:=this.2 f hf;simp at h2;omega
theorem z0p {a:yB} {t:Term} (h:t∈a):zc7 t.Fs<=zbo a:=by
 induction a with
 | nil=>cases h
 | cons b r ih=>
  rw [zwc];rcases qd.1 h with rfl | h
  ·omega
  ·have:=ih h; omega
theorem zNh {l:yC} {f:Fc} (h:f∈l):zni f.At<=zc7 l:=by
 induction l with
 | nil=>cases h
 | cons b r ih=>
  rw [ziR];rcases qd.1 h with rfl | h
  ·omega
  ·have:=ih h; omega
theorem zNd {l:yA} {a:yB} (h:a∈l):zbo a<=zlE l:=by
 induction l with
 | nil=>cases h
 | cons b r ih=>
  rw [zCe];rcases qd.1 h with rfl | h
  ·omega
  ·have:=ih h; omega
theorem z6s {l:yD} {w:Wd} (h:w∈l):zbo w.Ann<=zkp l:=by
 induction l with
 | nil=>cases h
 | cons b r ih=>
  rw [zzP];rcases qd.1 h with rfl | h
  ·omega
  ·have:=ih h; omega
theorem zrY {f:Int} {l:yD} {o:Int} {b:Value} (h:zzh f l o b=true):(0<=f/\f<=3/\5<=o/\o<=10)/\zqt b=true/\∀ w∈l,zqt w.Value=true/\w.Value.Kind=b.Kind:=by
 simp only [zzh,qc,List.all_eq_true,qe] at h;obtain ⟨⟨⟨⟨⟨⟨h1,h2⟩,h3⟩,h4⟩,h5⟩,h6⟩,h7⟩:=h;refine ⟨⟨h1,h2,h3,h4⟩,h5,λw hw=> ?_⟩
 have:=h7 w hw;simp only [zIp,qc,beq_iff_eq] at this;exact this.1
theorem zZ3:∀ (m:Nat) (a:yB),zbz m a=true->zo (zbo a+1) a
 | 0,a,h=>by cases h
 | m+1,a,h=>by
  have hw:=zvh (zE8 h);refine ⟨by omega,λt ht=> ?_⟩
  obtain ⟨_,hok⟩:=zul h ht;obtain ⟨h1,h2⟩:=hw.2.2.2 t ht;refine ⟨by omega,λf hf=> ?_⟩
  have hv:=zdl.1 (zoL hok hf).2;have hn:zni f.At<=zbo a:=Nat.le_trans (zNh hf) (z0p ht);have h3:=(h2 f hf).2;generalize f.At=x at hv hn h3;rw [zCE] at hn;have ih:∀ b,zbz m b=true->zbo b+1<=zbo a->zo (zbo a) b:=λb hb hl=>(zZ3 m b hb).mono hl
  cases hv with
  | var r h=>exact ⟨⟨by simp,by simp,by show (ByteArray.mk #[]).size<=_; decide⟩,λa ha=>(by cases ha),λw hw=>(by cases hw)⟩
  | mon b c hb hc _ _ _=>
   simp only at hn;refine ⟨⟨by simp,by simp,by show (ByteArray.mk #[]).size<=_; decide⟩,λy hy=> ?_,λw hw=>(by cases hw)⟩
   have:=zNd hy;simp only at this;simp only [qd,List.not_mem_nil,or_false] at hy;rcases hy with rfl | rfl
   ·exact ih _ hb (by simp at hn; omega)
   ·exact ih _ hc (by simp at hn; omega)
  | del b hb _ _ _=>
   refine ⟨⟨by simp,by simp,by show (ByteArray.mk #[]).size<=_; decide⟩,λy hy=> ?_,λw hw=>(by cases hw)⟩
   have:=zNd hy;simp only at this;simp only [qd,List.not_mem_nil,or_false] at hy;subst hy;exact ih _ hb (by simp at hn; omega)
  | abs b hb _ _=>
   refine ⟨⟨by simp,by simp,by show (ByteArray.mk #[]).size<=_; decide⟩,λy hy=> ?_,λw hw=>(by cases hw)⟩
   have:=zNd hy;simp only at this;simp only [qd,List.not_mem_nil,or_false] at hy;subst hy;exact ih _ hb (by simp at hn; omega)
  | tst fn l o b hl hi hs hf=>
   obtain ⟨_,hb,hit⟩:=zrY hf;refine ⟨⟨by simp,by simp only at h3 ⊢; omega,by have:=zuA hb; simp only; omega⟩,λy hy=>(by cases hy),λw hw=>⟨by have:=zuA (hit w hw).1; omega, ?_⟩⟩
   have:=z6s hw;simp only at this;exact ih _ (hi w hw).1 (by simp at hn; omega)
theorem zeJ {m:Nat} {a:yB} (h:zbz m a=true):zo 9 a/\zN a<=4096/\a.length<=512:=by
 cases m with
 | zero=>cases h
 | succ m=>
 have hw:=zvh (zE8 h);exact ⟨(zZ3 _ a h).mono (by omega),hw.2.2.1,hw.1⟩
theorem z4i {d m m':Nat} {a:yB} (h:zo d a) (hd:d<=100) (h1:d<=m) (h2:d<=m') (hs:zN a<=4611686018427387904):zbz m a=zbz m' a:=by
 have e1:=(zLD 1000).1 d m a h (by omega) h1 hd hs
 have e2:=(zLD 1000).1 d m' a h (by omega) h2 hd hs
 rw [e1] at e2;exact (Prod.mk.injEq _ _ _ _ ▸ e2).2
theorem z54 {m:Nat} {a:yB} (h:zbz m a=true) (hm:9<=m):zX a=true:=by
 obtain ⟨h1,h2,h3⟩:=zeJ h;rw [<- h]; exact z4i h1 (by omega) (by omega) hm (by omega)
theorem zZe {m:Nat} {a:yB} (h:zX a=true) (hm:9<=m):zbz m a=true:=by
 obtain ⟨h1,h2,h3⟩:=zeJ h;rw [<- h]; exact z4i h1 (by omega) hm (by omega) (by omega)
theorem VA.imp {V V':yB->Bool} (hV:∀ a,V a=true->V' a=true) {x:At} (h:VA V x):VA V' x:=by
 cases h with
 | var r h=>exact .var r h
 | mon a b ha hb ha0 hb0 h=>exact .mon a b (hV a ha) (hV b hb) ha0 hb0 h
 | del a ha ha0 h h'=>exact .del a (hV a ha) ha0 h h'
 | abs a ha ha0 h=>exact .abs a (hV a ha) ha0 h
 | tst f l o b hl hi hs hf=>exact .tst f l o b hl (λw hw=>⟨hV _ (hi w hw).1,(hi w hw).2⟩) hs hf
def zow (x:At):Bool:=zdU zX x
theorem zbbe {m:Nat} (hm:9<=m):zdU (zbz m)=zow:=by
 funext x
 rw [Bool.eq_iff_iff];unfold zow;rw [zdl,zdl];exact ⟨VA.imp λa h=>z54 h hm,VA.imp λa h=>zZe h hm⟩
theorem z0k (a:yB):zX a=zwH zow a:=by
 show zwH (zdU (zbz 99)) a=_;rw [zbbe (by omega)]
theorem zYQ {τ:Type} [Inhabited τ] {l:List τ} {i:Nat} (h:i<l.length):l.set i (l.getD i default)=l:=by
 rw [List.getD_eq_getElem?_getD,List.getElem?_eq_getElem h]; simp
section
variable (g:yB->Bool×yB) (gx:At->Bool×At)
theorem zbg2 (t8:yB) (t9 t10:Int) (out:yB) (t:Term) (l:yC) (hl:l.length<=1000000) (hg:∀ f∈l,gx f.At=(true,f.At)) (n:Nat) (hn:l.length<n):
  zzm gx n t8 t9 t10 l.length 0 out t l=(true,(t8,t9,t10,out,t,l)):=by
 have:=zcY (W:=zsK gx) (z:=default) l.length (λi=>((),(),(),t8,t9,t10,(l.length:Int),(i:Int),())) (λ_=>(out,t,l,())) (λ_=>true) default (t8,t9,t10,out,t,l)
  (λi hi H K D=>by
   show (zi6 gx t8 t9 t10 l.length i out t l).ev H K D=_;unfold zi6;simp only [At.eta,Wy.ev_i,Wy.ev_k,Wy.ev_h,Wy.ev_bn,Wy.ev_d,tT,hi,hg _ (zn hi)];rw [zD (by omega)]
   have:(l.set i (⟨(l.getD i default).At,(l.getD i default).Exp⟩:Fc))=l:=zYQ hi;rw [this])
  (λH K D=>by
   show (zi6 gx t8 t9 t10 l.length l.length out t l).ev H K D=_;unfold zi6;simp only [Wy.ev_i,Wy.ev_k,tT,Nat.lt_irrefl]) n hn
 rw [show zeo (λ_=>true) l.length 0=true from zdP.2 λ_ _ _=>rfl] at this
 exact this
theorem zbgS (a:yB) (hl:a.length<=1000000) (hg:∀ t∈a,t.Fs.length<=1000000/\∀ f∈t.Fs,gx f.At=(true,f.At)) (n:Nat) (hn:a.length<n):
  zzv gx n a a.length 0 []=(true,a):=by
 have hreach:zF=70368744177664:=rfl
 have:=zcY (W:=zsW gx) (z:=default) a.length (λi=>((),a,(a.length:Int),(i:Int),())) (λi=>(a.take i,())) (λ_=>true) default a
  (λi hi H K D=>by
   show (zi7 gx a a.length i (a.take i)).ev H K D=_;unfold zi7 zeO;obtain ⟨h1,h2⟩:=hg _ (zn hi);have hb:decide ((a.getD i default).Fs.length*128<=zF)=true:=by simp only [qe]; omega
   simp only [Wy.ev_i,Wy.ev_k,Wy.ev_h,Wy.ev_bn,Wy.ev_d,tT,hi,hb];rw [zbg2 gx a a.length i (a.take i) _ _ h1 h2 _ (by omega)]
   have hb2:decide (((a.take i).length+1)*32<=zF)=true:=by simp only [qe,List.length_take]; omega
   simp only [cond_true,List.length_singleton,hb2];rw [zD (by omega),zjs hi])
  (λH K D=>by
   show (zi7 gx a a.length a.length (a.take a.length)).ev H K D=_;unfold zi7;simp only [Wy.ev_i,Wy.ev_k,tT,Nat.lt_irrefl,List.take_length]) n hn
 rw [show zeo (λ_=>true) a.length 0=true from zdP.2 λ_ _ _=>rfl] at this
 exact this
end
def txV (v:Value):List UInt8:=if v.Kind=0 then zif v.Int else if v.Kind=1 then 39::(v.Text.data.toList.flatMap esc++[39]) else if v.Int=1 then [84,82,85,69] else [70,65,76,83,69]
def txR (r:RowID):List UInt8:=116::(zif r.Table++46::zif r.Seq)
def fnT (f:Int):List UInt8:=if f=0 then [67,79,85,78,84] else if f=1 then [83,85,77] else if f=2 then [77,73,78] else [77,65,88]
def opT (o:Int):List UInt8:=if o=5 then [61] else if o=6 then [60,62] else if o=7 then [60] else if o=8 then [60,61] else if o=9 then [62] else [62,61]
def zQH (ts:List (List UInt8)):List UInt8:=if ts=[] then [48] else zen ts [32,43,32]
def zU0 (c:Int) (fs:List (List UInt8)):List UInt8:=if fs=[] then zif c else if c=1 then zen fs [42] else zif c++42::zen fs [42]
def zLi (x:List UInt8) (e:Int):List UInt8:=if e=1 then x else x++94::zif e
def zdf (k:Int) (r:RowID) (xs:List (List UInt8)) (f:Int) (is:List (List UInt8)) (o:Int) (b:Value):List UInt8:=
 if k=0 then txR r
 else if k=1 then [109,111,110,117,115,91]++(xs.getD 0 []++([44,32]++(xs.getD 1 []++[93])))
 else if k=2 then [100,101,108,116,97,91]++(xs.getD 0 []++[93])
 else if k=3 then [97,98,115,101,110,116,91]++(xs.getD 0 []++[93])
 else [116,101,115,116,91]++(fnT f++([123]++(zen is [59,32]++([125,32]++(opT o++([32]++(txV b++[93])))))))
mutual
def txA:At->List UInt8
 | ⟨k,r,a,f,i,o,b⟩=>zdf k r (z29 a) f (z2m i) o b
def zIT:yC->List (List UInt8)
 | []=>[]
 | ⟨x,e⟩::l=>zLi (txA x) e::zIT l
def zQs:yB->List (List UInt8)
 | []=>[]
 | ⟨c,fs⟩::l=>zU0 c (zIT fs)::zQs l
def z29:yA->List (List UInt8)
 | []=>[]
 | a::l=>zQH (zQs a)::z29 l
def z2m:yD->List (List UInt8)
 | []=>[]
 | ⟨v,a⟩::l=>(txV v++([58,32]++zQH (zQs a)))::z2m l
end
def txF (f:Fc):List UInt8:=zLi (txA f.At) f.Exp
def txT (t:Term):List UInt8:=zU0 t.Cf (zIT t.Fs)
def txN (a:yB):List UInt8:=zQH (zQs a)
def txI (w:Wd):List UInt8:=txV w.Value++([58,32]++txN w.Ann)
theorem zxo:∀ l,zIT l=l.map txF
 | []=>by rw [zIT]; rfl
 | x::r=>by rw [zIT,zxo r]; rfl
theorem zQP:∀ l,zQs l=l.map txT
 | []=>by rw [zQs]; rfl
 | x::r=>by rw [zQs,zQP r]; rfl
theorem zlC:∀ l,z29 l=l.map txN
 | []=>by rw [z29]; rfl
 | x::r=>by rw [z29,zlC r]; rfl
theorem zJt:∀ l,z2m l=l.map txI
 | []=>by rw [z2m]; rfl
 | x::r=>by rw [z2m,zJt r]; rfl
theorem zbf0 (x:At):txA x=zdf x.Kind x.Row (z29 x.Ag) x.Func (z2m x.Items) x.Op x.Bd:=by cases x; rw [txA]
def txL (l:yC):List UInt8:=zen (zIT l) [42]
theorem zOY {v:Value} (h:zqt v=true):(txV v).length<=512:=by
 have ht:=zuA h;unfold txV;have h1:=zo6 v.Int;have h2:=z2A v.Text.data.toList;have h3:v.Text.data.toList.length=v.Text.size:=by rw [Array.length_toList]; rfl
 split
 ·omega
 ·split
  ·simp only [qf,qg,List.length_nil]; omega
  ·split <;>simp
theorem zbd1 (r:RowID):(txR r).length<=44:=by
 have h1:=zo6 r.Table;have h2:=zo6 r.Seq;simp only [txR,qf,qg]; omega
theorem z9n (f:Int):(fnT f).length<=5:=by unfold fnT; (repeat' split) <;>simp
theorem z9p (f:Int):(opT f).length<=2:=by unfold opT; (repeat' split) <;>simp
theorem zPt {α:Type} (t:α->List UInt8) (m:α->Nat) (s:List UInt8):∀ l:List α,(∀ x∈l,(t x).length+s.length<=m x)->(zen (l.map t) s).length<=(l.map m).sum
 | [],_=>by simp [zen]
 | [x],h=>by
  have:=h x (by simp)
  simp only [List.map,zen,List.sum_cons,List.sum_nil]; omega
 | x::y::r,h=>by
  have h1:=h x (by simp)
  have h2:=zPt t m s (y::r) λz hz=>h z (List.mem_cons_of_mem _ hz)
  simp only [List.map,zen,qg,List.sum_cons] at h2 ⊢;omega
theorem zYi:∀ l:yC,(l.map λf=>1000+1000*zeR f.At).sum=1000*(l.length+zbH l)
 | []=>by rw [zia]; rfl
 | f::r=>by rw [List.map_cons,List.sum_cons,zYi r,zcR,qf]; omega
theorem z3U:∀ l:yB,(l.map λt=>1000+1000*(t.Fs.length+zbH t.Fs)).sum=1000*zN l
 | []=>by rw [zuD]; rfl
 | f::r=>by rw [List.map_cons,List.sum_cons,z3U r,zfq]; omega
theorem z34:∀ l:yD,(l.map λt=>1000+1000*zN t.Ann).sum=1000*zc3 l
 | []=>by rw [zfe]; rfl
 | f::r=>by rw [List.map_cons,List.sum_cons,z34 r,zhS]; omega
theorem zbdw {x:At} {e:Int} (h:(txA x).length<=700+1000*zeR x):(zLi (txA x) e).length+1<=1000+1000*zeR x:=by
 have:=zo6 e;unfold zLi;split
 ·omega
 ·simp only [qg,qf]; omega
theorem z52 {l:yC} (h:∀ f∈l,(txA f.At).length<=700+1000*zeR f.At):(txL l).length<=1000*(l.length+zbH l):=by
 unfold txL;rw [zxo, <- zYi];exact zPt txF (λf=>1000+1000*zeR f.At) [42] l λf hf=>zbdw (h f hf)
theorem zWf:∀ (m:Nat),(∀ a,zbz m a=true->(txN a).length<=1+1000*zN a)/\(∀ x,zdU (zbz m) x=true->(txA x).length<=700+1000*zeR x)
 | m=>by
  have hA:∀ (V:yB->Bool),(∀ a,V a=true->(txN a).length<=1+1000*zN a)->∀ x,zdU V x=true->(txA x).length<=700+1000*zeR x:=by
   intro V hV x hx;rw [zgS];cases zdl.1 hx with
   | var r h=>
    rw [txA]; have:=zbd1 r;simp only [zdf,if_true]; omega
   | mon a b ha hb _ _ _=>
    have h1:=hV a ha; have h2:=hV b hb;rw [txA,zlC];simp only [zdf,zeA,zgq,zfe,List.map,List.getD_cons_zero,List.getD_cons_succ,qg,qf,List.length_nil];simp only [show ¬ (1:Int)=0 by decide,if_false,if_true,qg,qf,List.length_nil]
    omega
   | del a ha _ _ _=>
    have h1:=hV a ha;rw [txA,zlC];simp only [zdf,zeA,zgq,zfe,List.map,List.getD_cons_zero];simp only [show ¬ (2:Int)=0 by decide,show ¬ (2:Int)=1 by decide,if_false,if_true,qg,qf,List.length_nil]
    omega
   | abs a ha _ _=>
    have h1:=hV a ha;rw [txA,zlC];simp only [zdf,zeA,zgq,zfe,List.map,List.getD_cons_zero];simp only [show ¬ (3:Int)=0 by decide,show ¬ (3:Int)=1 by decide,show ¬ (3:Int)=2 by decide,if_false,if_true,qg,qf,List.length_nil]
    omega
   | tst f l o b hl hi hs hf=>
    obtain ⟨_,hb,hit⟩:=zrY hf;have h1:=z9n f; have h2:=z9p o; have h3:=zOY hb
    have h4:(zen (l.map txI) [59,32]).length<=1000*zc3 l:=by
     rw [<- z34];refine zPt txI (λw=>1000+1000*zN w.Ann) [59,32] l λw hw=> ?_
     have h5:=hV _ (hi w hw).1; have h6:=zOY (hit w hw).1;simp only [txI,qg,qf,List.length_nil]; omega
    rw [txA,zJt];simp only [zdf,zgq];simp only [show ¬ (4:Int)=0 by decide,show ¬ (4:Int)=1 by decide,show ¬ (4:Int)=2 by decide,show ¬ (4:Int)=3 by decide,if_false,qg,qf,List.length_nil]
    omega
  have hN:∀ a,zbz m a=true->(txN a).length<=1+1000*zN a:=by
   induction m with
   | zero=>intro a h; cases h
   | succ m ih=>
    intro a h;unfold txN zQH;split
    ·simp
    ·rw [zQP, <- z3U];refine Nat.le_trans (zPt txT (λt=>1000+1000*(t.Fs.length+zbH t.Fs)) [32,43,32] a λt ht=> ?_) (Nat.le_add_left _ _)
     have hok:=(zul h ht).2;have h5:=z52 (l:=t.Fs) λf hf=>hA _ ih _ (zoL hok hf).2
     have h6:=zo6 t.Cf;have e:(zen (zIT t.Fs) [42]).length=(txL t.Fs).length:=rfl;unfold txT zU0;simp only [qf,List.length_nil];split
     ·omega
     ·split
      ·omega
      ·simp only [qg,qf]; omega
  exact ⟨hN,hA _ hN⟩
theorem zlA {n:Int} (h:wf3 n): -9223372036854775808<=n/\n<=9223372036854775807:=by
 have h:(Lit.int .i64 n).wf=true:=h;have:IntKind.i64.min<=n/\n<=IntKind.i64.max:=by simpa [Lit.wf] using h
 exact ⟨this.1,this.2⟩
def rng (n:Int):Prop:= -9223372036854775808<=n/\n<=9223372036854775807
instance (n:Int):Decidable (rng n):=by unfold rng; infer_instance
theorem zYJ {n:Int} (h:rng n):strconv_Itoa n=(true,bs (zif n)):=by
 unfold strconv_Itoa zPk zLN;rw [decide_eq_true h.1,decide_eq_true h.2]; rfl
theorem z8P {n:Int} (h:rng n):ziB n 10=(true,bs (zif n)):=by
 unfold ziB zuB zLN;rw [decide_eq_true h.1,decide_eq_true h.2]; rfl
theorem okS (n m:Nat) (h:n+m<=9223372036854775807):decide (n+m<=9223372036854775807)=true:=decide_eq_true h
theorem zbb0 {r:RowID} (h:zw1 r=true) (h1:rng r.Table) (h2:rng r.Seq):zvG r=(true,bs (txR r)):=by
 unfold zvG zLt txR;have l1:=zo6 r.Table;have l2:=zo6 r.Seq;rw [show ByteArray.mk #[(116:UInt8)]=bs [116] from rfl,show ByteArray.mk #[(46:UInt8)]=bs [46] from rfl]
 simp only [Wy.fin_bn,Wy.fin_i,Wy.fin_k,zBA,h,zYJ h1,zYJ h2,cond_true,cond_false,Bool.not_true,zCT,ztZ,qg,qf,List.length_nil];rw [okS _ _ (by omega),okS _ _ (by omega),okS _ _ (by omega)]
 simp
theorem z79 {v:Value} (h:zqt v=true) (hr:rng v.Int):zqp v=(true,bs (txV v)):=by
 unfold zqp zOZ txV strings_ReplaceAll;have ht:=zuA h;rw [show ByteArray.mk #[(39:UInt8)]=bs [39] from rfl,show ByteArray.mk #[(39:UInt8),(39:UInt8)]=bs [39,39] from rfl]
 simp only [Wy.fin_bn,Wy.fin_i,Wy.fin_k,zyb,h,z8P hr,z2g _ ht,cond_true,cond_false,Bool.not_true,zCT,ztZ,qg,qf,List.length_nil];have h2:=z2A v.Text.data.toList;have h3:v.Text.data.toList.length=v.Text.size:=by rw [Array.length_toList]; rfl
 rw [okS _ _ (by omega),okS _ _ (by omega)]
 by_cases k0:v.Kind=0
 ·simp [k0]
 by_cases k1:v.Kind=1
 ·simp [k1]
 simp only [zga,k0,k1,decide_false,cond_false,if_false];by_cases i1:v.Int=1
 ·simp only [i1,decide_true,cond_true,if_true]; rfl
 ·simp only [i1,decide_false,cond_false,if_false]; rfl
theorem zbee {f:Int} (h0:0<=f) (h3:f<=3):(decide ((0:Int)<=f)&&decide (f<Int.ofNat zb2.snd.length))=true/\zb2.snd.getD f.toNat default=bs (fnT f):=by
 have hc:f=0\/f=1\/f=2\/f=3:=by omega
 rcases hc with rfl | rfl | rfl | rfl <;>exact ⟨rfl,rfl⟩
theorem zbeP {o:Int} (h0:5<=o) (h3:o<=10):(decide ((0:Int)<=IntKind.i64.wrap (o - 5))&&decide (IntKind.i64.wrap (o - 5)<Int.ofNat zds.snd.length))=true/\zds.snd.getD (IntKind.i64.wrap (o - 5)).toNat default=bs (opT o):=by
 have hc:o=5\/o=6\/o=7\/o=8\/o=9\/o=10:=by omega
 rcases hc with rfl | rfl | rfl | rfl | rfl | rfl <;>exact ⟨rfl,rfl⟩
theorem zXO {m:Nat} {x:At} (h:zdU (zbz m) x=true) (hi:x.Items.length<=1024):zeR x<=4195328:=by
 rw [zgS];cases zdl.1 h with
 | var r h=>rw [zgq,zfe]; omega
 | mon a b ha hb _ _ _=>
  have h1:=(zeJ ha).2.1; have h2:=(zeJ hb).2.1;simp only [zeA,zgq,zfe]; omega
 | del a ha _ _ _=>
  have h1:=(zeJ ha).2.1;simp only [zeA,zgq,zfe]; omega
 | abs a ha _ _=>
  have h1:=(zeJ ha).2.1;simp only [zeA,zgq,zfe]; omega
 | tst f l o b hl hv hs hf=>
  have h1:∀ l:yD,(∀ w∈l,zN w.Ann<=4096)->zc3 l<=l.length*4097:=λl=>by
   induction l with
   | nil=>intro _; rw [zfe]; omega
   | cons w r ih=>
    intro h;have:=h w (by simp)
    have:=ih λw hw=>h w (by simp [hw])
    rw [zhS,qf,Nat.add_mul]; omega
  have:=h1 l λw hw=>(zeJ (hv w hw).1).2.1
  have:=Nat.mul_le_mul hi (Nat.le_refl 4097);simp only [zgq] at this ⊢; omega
section
variable (gA:At->Bool×ByteArray) (gF:yC->Bool×ByteArray) (gT:yB->Bool×ByteArray)
theorem zbfs (l:yC) (hl:l.length<=1000) (hg:∀ f∈l,gA f.At=(true,bs (txA f.At))/\(txA f.At).length<=4200000000/\rng f.Exp):zgg gA l=(true,bs (txL l)):=by
 have hreach:zF=70368744177664:=rfl;unfold zgg zt1
 have:=zcY (W:=zk4 gA) (z:=default) l.length (λi=>((),l,(l.length:Int),(i:Int),())) (λi=>((l.take i).map λf=>bs (txF f),())) (λ_=>true) default (l.map λf=>bs (txF f))
  (λi hi H K D=>by
   show (zeU gA l l.length i ((l.take i).map λf=>bs (txF f))).ev H K D=_
   unfold zeU;obtain ⟨h1,h2,h3⟩:=hg _ (zn hi);have l1:=zo6 (l.getD i default).Exp;rw [show ByteArray.mk #[(94:UInt8)]=bs [94] from rfl]
   simp only [At.eta,Wy.ev_i,Wy.ev_k,Wy.ev_h,Wy.ev_bn,Wy.ev_d,tT,hi,h1,zYJ h3,zCT,ztZ,qg,qf,List.length_nil];rw [okS _ _ (by omega),okS _ _ (by omega),zD (by omega),zjs hi,List.map_append]
   have hb:decide ((((l.take i).map λf=>bs (txF f)).length+1)*16<=zF)=true:=by simp only [qe,List.length_map,List.length_take]; omega
   generalize ((l.take i).map λf=>bs (txF f))=out at hb ⊢
   have hb':decide ((out.length+(0+1))*16<=zF)=true:=hb;simp only [hb,hb',cond_true,List.map_cons,List.map_nil,txF,zLi,zsY];by_cases he:(l.getD i default).Exp=1
   ·simp only [he,decide_true,Bool.not_true,cond_false,if_true]
   ·simp only [he,decide_false,Bool.not_false,cond_true,if_false,List.singleton_append])
  (λH K D=>by
   show (zeU gA l l.length l.length ((l.take l.length).map λf=>bs (txF f))).ev H K D=_
   unfold zeU;simp only [Wy.ev_i,Wy.ev_k,tT,Nat.lt_irrefl,List.take_length]) (l.length+(Int.ofNat l.length).toNat +Int.toNat (0:Int)+(0:Nat)+(1:Nat)) (by omega)
 rw [show zeo (λ_=>true) l.length 0=true from zdP.2 λ_ _ _=>rfl] at this
 have e:zs4 gA (l.length+(Int.ofNat l.length).toNat +Int.toNat (0:Int)+(0:Nat)+(1:Nat)) l (Int.ofNat l.length) (0:Int) []=(true,(l.map txF).map bs):=by rw [List.map_map]; exact this
 have hlen:(zen (l.map txF) [42]).length<=140737488355328:=by
  refine Nat.le_trans (zU9 (B:=4200001000) (l.map txF) [42] λx hx=> ?_) (by
   rw [List.length_map]; have:=Nat.mul_le_mul hl (Nat.le_refl 4200001000); omega)
  obtain ⟨f,hf,rfl⟩:=List.mem_map.1 hx;have:=(hg f hf).2.1;have:=zo6 f.Exp;unfold txF zLi;split
  ·simp only [qf,List.length_nil]; omega
  ·simp only [qg,qf,List.length_nil]; omega
 rw [Wy.fin_bn,e,show ByteArray.mk #[(42:UInt8)]=bs [42] from rfl]
 unfold strings_Join;simp only [cond_true,Wy.fin_bn,Wy.fin_k,zYB _ _ (by rw [List.length_map]; omega) hlen]
 unfold txL;rw [zxo]
theorem zbf6 (a:yB) (hl:a.length<=1000) (hlen:(txN a).length<=140737488355328) (hg:∀ t∈a,gF t.Fs=(true,bs (txL t.Fs))/\(txL t.Fs).length<=4200000000/\rng t.Cf):zok gF a=(true,bs (txN a)):=by
 have hreach:zF=70368744177664:=rfl;unfold zok zDb;by_cases h0:a=[]
 ·subst h0;have e:txN []=[48]:=by unfold txN; rw [zQs]; rfl
  rw [e]; rfl
 have hne:(Int.ofNat a.length==(0:Int))=false:=by
  rw [beq_eq_false_iff_ne]; intro e;have:(a.length:Int)=0:=e;exact h0 (List.length_eq_zero_iff.1 (by omega))
 have:=zcY (W:=zuJ gF) (z:=default) a.length (λi=>((),a,(a.length:Int),(i:Int),())) (λi=>((a.take i).map λf=>bs (txT f),())) (λ_=>true) default (a.map λf=>bs (txT f))
  (λi hi H K D=>by
   show (zku gF a a.length i ((a.take i).map λf=>bs (txT f))).ev H K D=_
   unfold zku;obtain ⟨h1,h2,h3⟩:=hg _ (zn hi);have l1:=zo6 (a.getD i default).Cf;rw [show ByteArray.mk #[(42:UInt8)]=bs [42] from rfl]
   have hL:decide ((i:Int)<(a.length:Int))=true:=by simp [hi]
   have hL':decide ((i:Int)<Int.ofNat a.length)=true:=hL;simp only [Wy.ev_i,Wy.ev_k,Wy.ev_h,Wy.ev_bn,Wy.ev_d,hL,hL',zea,Bool.and_self,cond_true,Int.toNat_natCast,h1,z8P h3,zCT,ztZ,qg,qf,List.length_nil,show (Int.ofNat (a.getD i default).Fs.length==(0:Int))=((a.getD i default).Fs.length==0) from zrA _ 0]
   rw [okS _ _ (by omega),okS _ _ (by omega),zD (by omega),zjs hi,List.map_append]
   have hb:decide ((((a.take i).map λf=>bs (txT f)).length+1)*16<=zF)=true:=by simp only [qe,List.length_map,List.length_take]; omega
   generalize ((a.take i).map λf=>bs (txT f))=out at hb ⊢
   have hb':decide ((out.length+(0+1))*16<=zF)=true:=hb;simp only [hb,hb',cond_true,List.map_cons,List.map_nil,txT,zU0,zga]
   have e0:(zIT (a.getD i default).Fs=[])↔(a.getD i default).Fs.length=0:=by
    rw [zxo,List.map_eq_nil_iff,List.length_eq_zero_iff]
   by_cases hf:(a.getD i default).Fs.length=0
   ·rw [if_pos (e0.2 hf),hf]; rfl
   ·rw [if_neg (λe=>hf (e0.1 e)),zYW,decide_eq_false hf]
    by_cases he:(a.getD i default).Cf=1
    ·simp only [he,decide_true,cond_true,cond_false,if_true,txL]
    ·simp only [he,decide_false,cond_false,if_false,txL,List.append_assoc,List.singleton_append])
  (λH K D=>by
   show (zku gF a a.length a.length ((a.take a.length).map λf=>bs (txT f))).ev H K D=_
   unfold zku;simp only [Wy.ev_i,Wy.ev_k,tT,Nat.lt_irrefl,List.take_length]) (a.length+(Int.ofNat a.length).toNat +Int.toNat (0:Int)+(0:Nat)+(1:Nat)) (by omega)
 rw [show zeo (λ_=>true) a.length 0=true from zdP.2 λ_ _ _=>rfl] at this
 have e:zCp gF (a.length+(Int.ofNat a.length).toNat +Int.toNat (0:Int)+(0:Nat)+(1:Nat)) a (Int.ofNat a.length) (0:Int) []=(true,(a.map txT).map bs):=by rw [List.map_map]; exact this
 have ex:txN a=zen (a.map txT) [32,43,32]:=by
  unfold txN zQH;rw [zQP,if_neg (by simpa using h0)]
 rw [ex] at hlen ⊢;rw [Wy.fin_i,hne,cond_false,Wy.fin_bn,e,show ByteArray.mk #[(32:UInt8),(43:UInt8),(32:UInt8)]=bs [32,43,32] from rfl]
 unfold strings_Join;simp only [cond_true,Wy.fin_bn,Wy.fin_k,zYB _ _ (by rw [List.length_map]; omega) hlen]
theorem zbfW {V:yB->Bool} (x:At) (hx:zdU V x=true) (hw:zhD x) (hi:x.Items.length<=1024) (hg:∀ a,(a∈x.Ag\/∃ w∈x.Items,a=w.Ann)->gT a=(true,bs (txN a))/\(txN a).length<=4200000000):zim gT x=(true,bs (txA x)):=by
 have hreach:zF=70368744177664:=rfl;have W:=zsa hw;unfold zim zwZ;rw [zbf0];cases zdl.1 hx with
 | var r h=>
  have hr:=W.2.2.2.2.1;simp only [Wy.fin_bn,Wy.fin_i,Wy.fin_k,zbb0 h (zlA hr.1) (zlA hr.2)];simp [zdf]
 | mon a b ha hb _ _ _=>
  obtain ⟨g1,l1⟩:=hg a (.inl (by simp))
  obtain ⟨g2,l2⟩:=hg b (.inl (by simp))
  rw [zlC];simp only [List.map,zdf,List.getD_cons_zero,List.getD_cons_succ,show ¬ (1:Int)=0 by decide,if_false,if_true]
  rw [show ByteArray.mk #[(109:UInt8),(111:UInt8),(110:UInt8),(117:UInt8),(115:UInt8),(91:UInt8)]=bs [109,111,110,117,115,91] from rfl,show ByteArray.mk #[(44:UInt8),(32:UInt8)]=bs [44,32] from rfl,show ByteArray.mk #[(93:UInt8)]=bs [93] from rfl]
  simp only [cond_true,cond_false,Wy.fin_i,Wy.fin_bn,Wy.fin_k,show ((1:Int)==0)=false from rfl,show ((1:Int)==1)=true from rfl,show (decide ((0:Int)<=0)&&decide ((0:Int)<Int.ofNat [a,b].length))=true from rfl,show (decide ((0:Int)<=1)&&decide ((1:Int)<Int.ofNat [a,b].length))=true from rfl,show [a,b].getD (Int.toNat 0) default=a from rfl,show [a,b].getD (Int.toNat 1) default=b from rfl,g1,g2,zCT,ztZ,List.length_append,List.length_cons,List.length_nil]
  rw [okS _ _ (by omega),okS _ _ (by omega),okS _ _ (by omega),okS _ _ (by omega)]
  simp
 | del a ha _ _ _=>
  obtain ⟨g1,l1⟩:=hg a (.inl (by simp))
  rw [zlC];simp only [List.map,zdf,List.getD_cons_zero,show ¬ (2:Int)=0 by decide,show ¬ (2:Int)=1 by decide,if_false,if_true]
  rw [show ByteArray.mk #[(100:UInt8),(101:UInt8),(108:UInt8),(116:UInt8),(97:UInt8),(91:UInt8)]=bs [100,101,108,116,97,91] from rfl,show ByteArray.mk #[(93:UInt8)]=bs [93] from rfl]
  simp only [cond_true,cond_false,Wy.fin_i,Wy.fin_bn,Wy.fin_k,show ((2:Int)==0)=false from rfl,show ((2:Int)==1)=false from rfl,show ((2:Int)==2)=true from rfl,show (decide ((0:Int)<=0)&&decide ((0:Int)<Int.ofNat [a].length))=true from rfl,show [a].getD (Int.toNat 0) default=a from rfl,g1,zCT,ztZ,List.length_append,List.length_cons,List.length_nil]
  rw [okS _ _ (by omega),okS _ _ (by omega)]
  simp
 | abs a ha _ _=>
  obtain ⟨g1,l1⟩:=hg a (.inl (by simp))
  rw [zlC];simp only [List.map,zdf,List.getD_cons_zero,show ¬ (3:Int)=0 by decide,show ¬ (3:Int)=1 by decide,show ¬ (3:Int)=2 by decide,if_false,if_true]
  rw [show ByteArray.mk #[(97:UInt8),(98:UInt8),(115:UInt8),(101:UInt8),(110:UInt8),(116:UInt8),(91:UInt8)]=bs [97,98,115,101,110,116,91] from rfl,show ByteArray.mk #[(93:UInt8)]=bs [93] from rfl]
  simp only [cond_true,cond_false,Wy.fin_i,Wy.fin_bn,Wy.fin_k,show ((3:Int)==0)=false from rfl,show ((3:Int)==1)=false from rfl,show ((3:Int)==2)=false from rfl,show ((3:Int)==3)=true from rfl,show (decide ((0:Int)<=0)&&decide ((0:Int)<Int.ofNat [a].length))=true from rfl,show [a].getD (Int.toNat 0) default=a from rfl,g1,zCT,ztZ,List.length_append,List.length_cons,List.length_nil]
  rw [okS _ _ (by omega),okS _ _ (by omega)]
  simp
 | tst f l o b hl hv hs hf=>
  obtain ⟨⟨f0,f3,o5,o10⟩,hb,hit⟩:=zrY hf;have hwl:=zi9 W.2.1.1;have hwb:rng b.Int:=zlA W.2.2.1.2.1
  have:=zcY (W:=zmA gT) (z:=default) l.length (λi=>((),(),l,(l.length:Int),(i:Int),())) (λi=>((⟨4,⟨0,0⟩,[],f,l,o,b⟩:At),(l.take i).map λw=>bs (txI w),())) (λ_=>true) default ((⟨4,⟨0,0⟩,[],f,l,o,b⟩:At),l.map λw=>bs (txI w))
   (λi hi' H K D=>by
    show (zfA gT l l.length i (⟨4,⟨0,0⟩,[],f,l,o,b⟩:At) ((l.take i).map λw=>bs (txI w))).ev H K D=_
    unfold zfA;have hm:=zn hi';obtain ⟨g1,l1⟩:=hg _ (.inr ⟨_,hm,rfl⟩);have l2:=zOY (hit _ hm).1;rw [show ByteArray.mk #[(58:UInt8),(32:UInt8)]=bs [58,32] from rfl]
    simp only [Wy.ev_i,Wy.ev_k,Wy.ev_h,Wy.ev_bn,Wy.ev_d,tT,hi',z79 (hit _ hm).1 (zlA (hwl _ hm).1.2.1),g1,zCT,ztZ,qg,qf,List.length_nil];rw [okS _ _ (by omega),okS _ _ (by omega),zD (by simp only at hi; omega),zjs hi',List.map_append]
    have hb:decide ((((l.take i).map λw=>bs (txI w)).length+1)*16<=zF)=true:=by simp only at hi; simp only [qe,List.length_map,List.length_take]; omega
    generalize ((l.take i).map λw=>bs (txI w))=out at hb ⊢
    have hb':decide ((out.length+(0+1))*16<=zF)=true:=hb;simp only [hb,hb',cond_true,List.map_cons,List.map_nil,txI,List.append_assoc])
   (λH K D=>by
    show (zfA gT l l.length l.length (⟨4,⟨0,0⟩,[],f,l,o,b⟩:At) ((l.take l.length).map λw=>bs (txI w))).ev H K D=_
    unfold zfA;simp only [Wy.ev_i,Wy.ev_k,tT,Nat.lt_irrefl,List.take_length]) (l.length+(Int.ofNat l.length).toNat +Int.toNat (0:Int)+([]:yA).length+l.length+(0:Nat)+(1:Nat)) (by omega)
  rw [show zeo (λ_=>true) l.length 0=true from zdP.2 λ_ _ _=>rfl] at this
  have e:zuy gT (l.length+(Int.ofNat l.length).toNat +Int.toNat (0:Int)+([]:yA).length+l.length+(0:Nat)+(1:Nat)) l (Int.ofNat l.length) (0:Int) (⟨4,⟨0,0⟩,[],f,l,o,b⟩:At) []=(true,((⟨4,⟨0,0⟩,[],f,l,o,b⟩:At),(l.map txI).map bs)):=by rw [List.map_map]; exact this
  simp only at hi
  have hlen:(zen (l.map txI) [59,32]).length<=5000000000000:=by
   refine Nat.le_trans (zU9 (B:=4200001000) (l.map txI) [59,32] λy hy=> ?_) (by
    rw [List.length_map]; have:=Nat.mul_le_mul hi (Nat.le_refl 4200001000); omega)
   obtain ⟨w,hw,rfl⟩:=List.mem_map.1 hy;have h1:=(hg _ (.inr ⟨w,hw,rfl⟩)).2;have h2:=zOY (hit w hw).1;simp only [txI,qg,qf,List.length_nil]; omega
  have l3:=z9n f;have l4:=z9p o;have l5:=zOY hb;rw [zJt];simp only [zdf,show ¬ (4:Int)=0 by decide,show ¬ (4:Int)=1 by decide,show ¬ (4:Int)=2 by decide,show ¬ (4:Int)=3 by decide,if_false]
  rw [show ByteArray.mk #[(116:UInt8),(101:UInt8),(115:UInt8),(116:UInt8),(91:UInt8)]=bs [116,101,115,116,91] from rfl,show ByteArray.mk #[(123:UInt8)]=bs [123] from rfl,show ByteArray.mk #[(125:UInt8),(32:UInt8)]=bs [125,32] from rfl,show ByteArray.mk #[(59:UInt8),(32:UInt8)]=bs [59,32] from rfl,show ByteArray.mk #[(32:UInt8)]=bs [32] from rfl,show ByteArray.mk #[(93:UInt8)]=bs [93] from rfl]
  simp only [Wy.fin_i,show ((4:Int)==0)=false from rfl,show ((4:Int)==1)=false from rfl,show ((4:Int)==2)=false from rfl,show ((4:Int)==3)=false from rfl,cond_false]
  unfold strings_Join;obtain ⟨fb,ft⟩:=zbee f0 f3;obtain ⟨ob,ot⟩:=zbeP o5 o10;rw [e,zWp];simp only [Wy.fin_i,Wy.fin_k,Wy.fin_bn,fb,ft,ob,ot,zYB _ _ (show (l.map txI).length<=140737488355328 by rw [List.length_map]; omega) (show (zen (l.map txI) [59,32]).length<=140737488355328 by omega),z79 hb hwb,cond_true,zCT,ztZ,List.length_append,List.length_cons,List.length_nil]
  rw [okS _ _ (by omega),okS _ _ (by omega),okS _ _ (by omega),okS _ _ (by omega),okS _ _ (by omega),okS _ _ (by omega),okS _ _ (by omega),okS _ _ (by omega)]
  simp
end
theorem z7H:∀ n,
  (∀ m a,zbz m a=true->zgh a->3*m<=n->zob n a=(true,bs (txN a)))/\
  (∀ m x,zdU (zbz m) x=true->zhD x->x.Items.length<=1024->3*m+1<=n->zk9 n x=(true,bs (txA x)))/\
  (∀ m (l:yC),l.length<=1000->(∀ f∈l,zdU (zbz m) f.At=true/\zhD f.At/\f.At.Items.length<=1024/\rng f.Exp)->3*m+2<=n->zf4 n l=(true,bs (txL l)))
 | 0=>by
  refine ⟨?_, ?_, ?_⟩
  ·intro m a h _ hm; have:m=0:=by omega
   subst this; cases h
  all_goals (intros; omega)
 | n+1=>by
  obtain ⟨h1,h2,h3⟩:=z7H n;refine ⟨?_, ?_, ?_⟩
  ·intro m a h hw hm;cases m with
   | zero=>cases h
   | succ m=>
    have hl:=zvh (zE8 h);have hlen:=(zWf (m+1)).1 a h;rw [zPm];refine zbf6 _ a (by omega) (by omega) λt ht=> ?_
    obtain ⟨⟨c1,c2⟩,hok⟩:=zul h ht;obtain ⟨q1,q2⟩:=hl.2.2.2 t ht;have hwt:=znP (zuE (zrI hw t ht)).2.1;refine ⟨h3 m t.Fs (by omega) (λf hf=> ?_) (by omega), ?_,by constructor <;>omega⟩
    ·obtain ⟨⟨e1,_⟩,hv⟩:=zoL hok hf;exact ⟨hv,(zpH (hwt f hf)).1,(q2 f hf).2,by have:=(q2 f hf).1; constructor <;>omega⟩
    ·refine Nat.le_trans (z52 λf hf=>(zWf m).2 _ (zoL hok hf).2) ?_
     have hs:t.Fs.length+zbH t.Fs<=zN a:=by
      clear hok q1 q2 hwt hw h hlen hl;induction a with
      | nil=>cases ht
      | cons b r ih=>
       rw [zfq];rcases qd.1 ht with rfl | ht
       ·omega
       ·have:=ih ht; omega
     omega
  ·intro m x h hw hi hm;rw [zFX];have W:=zsa hw;refine zbfW _ x h hw hi λa ha=> ?_
   have hv:zbz m a=true/\zgh a:=by
    rcases ha with ha | ⟨w,hw',rfl⟩
    ·refine ⟨?_,(zje W.1.1 a ha).1⟩;cases zdl.1 h with
     | var r h=>cases ha
     | mon b c hb hc _ _ _=>
      simp only [qd,List.not_mem_nil,or_false] at ha;rcases ha with rfl | rfl
      ·exact hb
      ·exact hc
     | del b hb _ _ _=>rw [qh] at ha; subst ha; exact hb
     | abs b hb _ _=>rw [qh] at ha; subst ha; exact hb
     | tst f l o b hl hi hs hf=>cases ha
    ·refine ⟨?_,(zi9 W.2.1.1 w hw').2.1⟩;cases zdl.1 h with
     | tst f l o b hl hi2 hs hf=>exact (hi2 w hw').1
     | _=>cases hw'
   refine ⟨h1 m a hv.1 hv.2 (by omega), ?_⟩
   have q1:=(zWf m).1 a hv.1;have q2:=(zeJ hv.1).2.1;omega
  ·intro m l hl h hm;rw [zCX];refine zbfs _ l hl λf hf=> ?_
   obtain ⟨q1,q2,q3,q4⟩:=h f hf;refine ⟨h2 m f.At q1 q2 q3 (by omega), ?_,q4⟩
   have q5:=(zWf m).2 f.At q1;have q6:=zXO q1 q3;omega
def hd (S:List UInt8) (u:List UInt8):Prop:=∀ c,u.head? =some c->c∈S
theorem zph {S:List UInt8} {c:UInt8} {u:List UInt8} (h:c∈S):hd S (c::u):=λd hd=>by
 simp only [List.head?_cons,qa] at hd; subst hd; exact h
theorem hd.mono {S T:List UInt8} {u:List UInt8} (h:hd S u) (hs:∀ c∈S,c∈T):hd T u:=λc hc=>hs c (h c hc)
theorem hd.noDig {S:List UInt8} {u:List UInt8} (h:hd S u) (hs:∀ c∈S,zqV c=false):noDig u:=λc hc=>hs c (h c hc)
theorem hd.ne {S:List UInt8} {u:List UInt8} (h:hd S u) {c:UInt8} (hs:c∉S):u.head? ≠some c:=λe=>hs (h c e)
theorem hd.cons_ne {S:List UInt8} {u:List UInt8} {c:UInt8} (h:hd S (c::u)) (hs:c∉S):False:=hs (h c rfl)
theorem zLp {α:Type} (tx:α->List UInt8) (S0:List UInt8) (s0:UInt8) (sr:List UInt8) (P:α->Prop) (hS:s0∉S0) (hR:∀ x y,P x->P y->∀ u v,hd (s0::S0) u->hd (s0::S0) v->tx x++u=tx y++v->x=y/\u=v):
  ∀ l l':List α,l≠[]->l'≠[]->(∀ x∈l,P x)->(∀ x∈l',P x)->∀ u v,hd S0 u->hd S0 v->zen (l.map tx) (s0::sr)++u=zen (l'.map tx) (s0::sr)++v->l=l'/\u=v
 | [],_,h,_,_,_,_,_,_,_,_=>absurd rfl h
 | _::_,[],_,h,_,_,_,_,_,_,_=>absurd rfl h
 | [x],[y],_,_,hx,hy,u,v,hu,hv,h=>by
  have mono:∀ c∈S0,c∈s0::S0:=λc hc=>List.mem_cons_of_mem _ hc
  obtain ⟨h1,h2⟩:=hR x y (hx x (by simp)) (hy y (by simp)) u v (hu.mono mono) (hv.mono mono) h
  exact ⟨by rw [h1],h2⟩
 | [x],y::y'::r',_,_,hx,hy,u,v,hu,hv,h=>by
  have mono:∀ c∈S0,c∈s0::S0:=λc hc=>List.mem_cons_of_mem _ hc
  simp only [List.map,zen,List.append_assoc] at h;obtain ⟨h1,h2⟩:=hR x y (hx x (by simp)) (hy y (by simp)) u _ (hu.mono mono) (zph (by simp)) h
  rw [h2] at hu;exact (hu.cons_ne hS).elim
 | x::x'::r,[y],_,_,hx,hy,u,v,hu,hv,h=>by
  have mono:∀ c∈S0,c∈s0::S0:=λc hc=>List.mem_cons_of_mem _ hc
  simp only [List.map,zen,List.append_assoc] at h;obtain ⟨h1,h2⟩:=hR x y (hx x (by simp)) (hy y (by simp)) _ v (zph (by simp)) (hv.mono mono) h
  rw [<- h2] at hv;exact (hv.cons_ne hS).elim
 | x::x'::r,y::y'::r',_,_,hx,hy,u,v,hu,hv,h=>by
  have h:zen (((x::x'::r)).map tx) (s0::sr)++u=zen (((y::y'::r')).map tx) (s0::sr)++v:=h;simp only [List.map,zen,List.append_assoc] at h;obtain ⟨h1,h2⟩:=hR x y (hx x (by simp)) (hy y (by simp)) _ _ (zph (by simp)) (zph (by simp)) h
  have h3:=(List.append_right_inj sr).1 (List.cons.inj h2).2;obtain ⟨h4,h5⟩:=zLp tx S0 s0 sr P hS hR (x'::r) (y'::r') (by simp) (by simp) (λz hz=>hx z (List.mem_cons_of_mem _ hz)) (λz hz=>hy z (List.mem_cons_of_mem _ hz)) u v hu hv h3
  exact ⟨by rw [h1,h4],h5⟩
theorem z5M {t:ByteArray} (h:t.size=0):t=ByteArray.mk #[]:=zFr (by
 have:t.data.toList.length=0:=by rw [Array.length_toList]; exact h
 rw [List.length_eq_zero_iff.1 this])
theorem z7m {x y:Value} (hx:zqt x=true) (hy:zqt y=true) (rx:rng x.Int) (ry:rng y.Int) {u v:List UInt8} (hu:hd [58,93] u) (hv:hd [58,93] v) (h:txV x++u=txV y++v):x=y/\u=v:=by
 have d1:∀ c∈([58,93]:List UInt8),zqV c=false:=by decide
 obtain ⟨cx,sx,ex,dx⟩:=z32 rx.1 rx.2;obtain ⟨cy,sy,ey,dy⟩:=z32 ry.1 ry.2
 have nd:∀ c:UInt8,c=45\/zqV c=true->c≠39/\c≠84/\c≠70:=λc hc=>by
  refine ⟨?_, ?_, ?_⟩ <;>(intro e; subst e; revert hc; decide)
 obtain ⟨kx,ix,tx⟩:=x;obtain ⟨ky,iy,ty⟩:=y;simp only [zqt,Bool.or_eq_true,qc,beq_iff_eq,qe] at hx hy;simp only at rx ry ex ey;rcases hx with (⟨rfl,hx⟩ | ⟨⟨rfl,rfl⟩,hx⟩) | ⟨⟨rfl,hx⟩,hx2⟩
 ·have:=z5M hx; subst this;rcases hy with (⟨rfl,hy⟩ | ⟨⟨rfl,rfl⟩,hy⟩) | ⟨⟨rfl,hy⟩,hy2⟩
  ·have:=z5M hy; subst this;simp only [txV,if_true] at h;obtain ⟨h1,h2⟩:=zus rx ry (hu.noDig d1) (hv.noDig d1) h;exact ⟨by rw [h1],h2⟩
  ·simp only [txV,if_true,show ¬ (1:Int)=0 by decide,if_false,ex,List.cons_append,qj] at h
   exact absurd h.1 (nd cx dx).1
  ·rcases hy2 with rfl | rfl
   ·simp only [txV,if_true,show ¬ (2:Int)=0 by decide,show ¬ (2:Int)=1 by decide,show ¬ (0:Int)=1 by decide,if_false,ex,List.cons_append,qj] at h
    exact absurd h.1 (nd cx dx).2.2
   ·simp only [txV,if_true,show ¬ (2:Int)=0 by decide,show ¬ (2:Int)=1 by decide,if_false,ex,List.cons_append,qj] at h
    exact absurd h.1 (nd cx dx).2.1
 ·rcases hy with (⟨rfl,hy⟩ | ⟨⟨rfl,rfl⟩,hy⟩) | ⟨⟨rfl,hy⟩,hy2⟩
  ·simp only [txV,if_true,show ¬ (1:Int)=0 by decide,if_false,ey,List.cons_append,qj] at h
   exact absurd h.1.symm (nd cy dy).1
  ·simp only [txV,if_true,show ¬ (1:Int)=0 by decide,if_false,List.cons_append,qj,true_and,List.append_assoc,List.nil_append] at h
   obtain ⟨h1,h2⟩:=zYH _ _ u v (hu.ne (by decide)) (hv.ne (by decide)) h
   exact ⟨by rw [zFr h1],h2⟩
  ·rcases hy2 with rfl | rfl <;>simp [txV] at h
 ·have:=z5M hx; subst this;rcases hy with (⟨rfl,hy⟩ | ⟨⟨rfl,rfl⟩,hy⟩) | ⟨⟨rfl,hy⟩,hy2⟩
  ·rcases hx2 with rfl | rfl
   ·simp only [txV,if_true,show ¬ (2:Int)=0 by decide,show ¬ (2:Int)=1 by decide,show ¬ (0:Int)=1 by decide,if_false,ey,List.cons_append,qj] at h
    exact absurd h.1.symm (nd cy dy).2.2
   ·simp only [txV,if_true,show ¬ (2:Int)=0 by decide,show ¬ (2:Int)=1 by decide,if_false,ey,List.cons_append,qj] at h
    exact absurd h.1.symm (nd cy dy).2.1
  ·rcases hx2 with rfl | rfl <;>simp [txV] at h
  ·have:=z5M hy; subst this;rcases hx2 with rfl | rfl <;>rcases hy2 with rfl | rfl <;>simp [txV] at h
   ·exact ⟨rfl,h⟩
   ·exact ⟨rfl,h⟩
theorem zbbZ {f g:Int} (hf:0<=f/\f<=3) (hg:0<=g/\g<=3) {u v:List UInt8} (h:fnT f++123::u=fnT g++123::v):f=g/\u=v:=by
 have c1:f=0\/f=1\/f=2\/f=3:=by omega
 have c2:g=0\/g=1\/g=2\/g=3:=by omega
 rcases c1 with rfl | rfl | rfl | rfl <;>rcases c2 with rfl | rfl | rfl | rfl <;>simp [fnT] at h <;>exact ⟨rfl,h⟩
theorem zbcZ {f g:Int} (hf:5<=f/\f<=10) (hg:5<=g/\g<=10) {u v:List UInt8} (h:opT f++32::u=opT g++32::v):f=g/\u=v:=by
 have c1:f=5\/f=6\/f=7\/f=8\/f=9\/f=10:=by omega
 have c2:g=5\/g=6\/g=7\/g=8\/g=9\/g=10:=by omega
 rcases c1 with rfl | rfl | rfl | rfl | rfl | rfl <;>rcases c2 with rfl | rfl | rfl | rfl | rfl | rfl <;>simp [opT] at h <;>exact ⟨rfl,h⟩
def SN:List UInt8:=[93,44,59,125]
def ST:List UInt8:=32::SN
def SF:List UInt8:=42::ST
def SA:List UInt8:=94::SF
theorem z08:∀ c∈SA,zqV c=false:=by decide
theorem zbgj:∀ c∈ST,c∈SA:=by decide
theorem z0Q:∀ c∈SF,c∈SA:=by decide
def RdN (V:yB->Bool):Prop:=∀ a b,V a=true->V b=true->zgh a->zgh b->∀ u v,hd SN u->hd SN v->txN a++u=txN b++v->a=b/\u=v
def RdA (V:yB->Bool):Prop:=∀ x y,zdU V x=true->zdU V y=true->zhD x->zhD y->∀ u v,hd SA u->hd SA v->txA x++u=txA y++v->x=y/\u=v
theorem zbb2 {V:yB->Bool} {x:At} (h:zdU V x=true):∃ c r,txA x=c::r/\zqV c=false:=by
 cases zdl.1 h with
 | var r h=>rw [txA]; exact ⟨116,_,rfl,rfl⟩
 | mon a b _ _ _ _ _=>rw [txA]; exact ⟨109,_,rfl,rfl⟩
 | del a _ _ _ _=>rw [txA]; exact ⟨100,_,rfl,rfl⟩
 | abs a _ _ _=>rw [txA]; exact ⟨97,_,rfl,rfl⟩
 | tst f l o b _ _ _ _=>rw [txA]; exact ⟨116,_,rfl,rfl⟩
theorem zbbm {V:yB->Bool} (hV:RdN V):RdA V:=by
 intro x y hx hy wx wy u v hu hv h;have Wx:=zsa wx;have Wy:=zsa wy;have k0:¬ (1:Int)=0:=by decide
 have c44:∀ z,hd SN (44::z):=λz=>zph (by decide)
 have c93:∀ z,hd SN (93::z):=λz=>zph (by decide)
 have tE:∀ (r:RowID),zw1 r=true->rng r.Table->∀ w z,zif r.Table++w≠101::z:=λr hr hg w z e=>by
  simp only [zw1,qc,qe] at hr;obtain ⟨d1,d2⟩:=zbaZ (show 0<=r.Table by omega) hg.2
  cases hl:zif r.Table with
  | nil=>exact d2 hl
  | cons c s=>
   rw [hl] at e d1;simp only [List.cons_append,qj] at e;rw [List.all_cons,e.1] at d1;revert d1; simp [zqV]
 cases zdl.1 hx with
 | var r hr=>
  have rr:=Wx.2.2.2.2.1;simp only at rr;cases zdl.1 hy with
  | var r' hr'=>
   have rr':=Wy.2.2.2.2.1;simp only at rr';rw [txA,txA] at h;simp only [zdf,if_true,txR,List.cons_append,qj,true_and,List.append_assoc] at h;obtain ⟨h1,h2⟩:=zus (zlA rr.1) (zlA rr'.1) (λc hc=>by simp only [List.head?_cons,qa] at hc; subst hc; rfl) (λc hc=>by simp only [List.head?_cons,qa] at hc; subst hc; rfl) h
   simp only [qj,true_and] at h2;obtain ⟨h3,h4⟩:=zus (zlA rr.2) (zlA rr'.2) (hu.noDig z08) (hv.noDig z08) h2;obtain ⟨t,s⟩:=r; obtain ⟨t',s'⟩:=r';simp only at h1 h3;exact ⟨by rw [h1,h3],h4⟩
  | tst f l o b _ _ _ _=>
   rw [txA,txA] at h;simp only [zdf,if_true,txR,show ¬ (4:Int)=0 by decide,show ¬ (4:Int)=1 by decide,show ¬ (4:Int)=2 by decide,show ¬ (4:Int)=3 by decide,if_false,List.cons_append,qj,true_and,List.append_assoc] at h
   exact absurd h (tE r hr (zlA rr.1) _ _)
  | mon a b _ _ _ _ _=>rw [txA,txA] at h; simp [zdf,txR] at h
  | del a _ _ _ _=>rw [txA,txA] at h; simp [zdf,txR] at h
  | abs a _ _ _=>rw [txA,txA] at h; simp [zdf,txR] at h
 | mon a b ha hb _ _ _=>
  cases zdl.1 hy with
  | mon a' b' ha' hb' _ _ _=>
   rw [txA,txA,zlC,zlC] at h;simp only [zdf,if_true,k0,if_false,List.map,List.getD_cons_zero,List.getD_cons_succ,List.cons_append,qj,true_and,List.append_assoc,List.nil_append] at h;have wa:=λz hz=>(zje Wx.1.1 z hz).1
   have wb:=λz hz=>(zje Wy.1.1 z hz).1
   obtain ⟨h1,h2⟩:=hV a a' ha ha' (wa a (by simp)) (wb a' (by simp)) _ _ (c44 _) (c44 _) h
   simp only [qj,true_and] at h2;obtain ⟨h3,h4⟩:=hV b b' hb hb' (wa b (by simp)) (wb b' (by simp)) _ _ (c93 _) (c93 _) h2
   simp only [qj,true_and] at h4;exact ⟨by rw [h1,h3],h4⟩
  | var r h=>rw [txA,txA] at h; simp [zdf,txR] at h
  | del a _ _ _ _=>rw [txA,txA] at h; simp [zdf,txR] at h
  | abs a _ _ _=>rw [txA,txA] at h; simp [zdf,txR] at h
  | tst f l o b _ _ _ _=>rw [txA,txA] at h; simp [zdf,txR] at h
 | del a ha _ _ _=>
  cases zdl.1 hy with
  | del a' ha' _ _ _=>
   rw [txA,txA,zlC,zlC] at h;simp only [zdf,if_true,show ¬ (2:Int)=0 by decide,show ¬ (2:Int)=1 by decide,if_false,List.map,List.getD_cons_zero,List.cons_append,qj,true_and,List.append_assoc,List.nil_append] at h
   have wa:=λz hz=>(zje Wx.1.1 z hz).1
   have wb:=λz hz=>(zje Wy.1.1 z hz).1
   obtain ⟨h1,h2⟩:=hV a a' ha ha' (wa a (by simp)) (wb a' (by simp)) _ _ (c93 _) (c93 _) h
   simp only [qj,true_and] at h2;exact ⟨by rw [h1],h2⟩
  | var r h=>rw [txA,txA] at h; simp [zdf,txR] at h
  | mon a b _ _ _ _ _=>rw [txA,txA] at h; simp [zdf,txR] at h
  | abs a _ _ _=>rw [txA,txA] at h; simp [zdf,txR] at h
  | tst f l o b _ _ _ _=>rw [txA,txA] at h; simp [zdf,txR] at h
 | abs a ha _ _=>
  cases zdl.1 hy with
  | abs a' ha' _ _=>
   rw [txA,txA,zlC,zlC] at h;simp only [zdf,if_true,show ¬ (3:Int)=0 by decide,show ¬ (3:Int)=1 by decide,show ¬ (3:Int)=2 by decide,if_false,List.map,List.getD_cons_zero,List.cons_append,qj,true_and,List.append_assoc,List.nil_append] at h
   have wa:=λz hz=>(zje Wx.1.1 z hz).1
   have wb:=λz hz=>(zje Wy.1.1 z hz).1
   obtain ⟨h1,h2⟩:=hV a a' ha ha' (wa a (by simp)) (wb a' (by simp)) _ _ (c93 _) (c93 _) h
   simp only [qj,true_and] at h2;exact ⟨by rw [h1],h2⟩
  | var r h=>rw [txA,txA] at h; simp [zdf,txR] at h
  | mon a b _ _ _ _ _=>rw [txA,txA] at h; simp [zdf,txR] at h
  | del a _ _ _ _=>rw [txA,txA] at h; simp [zdf,txR] at h
  | tst f l o b _ _ _ _=>rw [txA,txA] at h; simp [zdf,txR] at h
 | tst f l o b hl hi hs hf=>
  cases zdl.1 hy with
  | tst f' l' o' b' hl' hi' hs' hf'=>
   obtain ⟨⟨f0,f3,o5,o10⟩,hb,hit⟩:=zrY hf;obtain ⟨⟨f0',f3',o5',o10'⟩,hb',hit'⟩:=zrY hf';have wl:=zi9 Wx.2.1.1;have wl':=zi9 Wy.2.1.1;rw [txA,txA,zJt,zJt] at h;simp only [zdf,show ¬ (4:Int)=0 by decide,show ¬ (4:Int)=1 by decide,show ¬ (4:Int)=2 by decide,show ¬ (4:Int)=3 by decide,if_false,List.cons_append,qj,true_and,List.append_assoc,List.nil_append] at h
   obtain ⟨h1,h2⟩:=zbbZ ⟨f0,f3⟩ ⟨f0',f3'⟩ h
   obtain ⟨h3,h4⟩:=zLp txI [125] 59 [32] (λw=>(V w.Ann=true/\zgh w.Ann)/\zqt w.Value=true/\rng w.Value.Int) (by decide) (λx y px py u v hu hv e=>by
    simp only [txI,List.append_assoc,List.cons_append,List.nil_append] at e;obtain ⟨e1,e2⟩:=z7m px.2.1 py.2.1 px.2.2 py.2.2 (zph (by decide)) (zph (by decide)) e
    simp only [qj,true_and] at e2;obtain ⟨e3,e4⟩:=hV _ _ px.1.1 py.1.1 px.1.2 py.1.2 u v (hu.mono (by decide)) (hv.mono (by decide)) e2
    obtain ⟨vx,ax⟩:=x; obtain ⟨vy,ay⟩:=y;simp only at e1 e3;exact ⟨by rw [e1,e3],e4⟩) l l' hl hl' (λw hw=>⟨⟨(hi w hw).1,(wl w hw).2.1⟩,(hit w hw).1,zlA (wl w hw).1.2.1⟩) (λw hw=>⟨⟨(hi' w hw).1,(wl' w hw).2.1⟩,(hit' w hw).1,zlA (wl' w hw).1.2.1⟩) _ _ (zph (by decide)) (zph (by decide)) h2
   simp only [qj,true_and] at h4;obtain ⟨h5,h6⟩:=zbcZ ⟨o5,o10⟩ ⟨o5',o10'⟩ h4;obtain ⟨h7,h8⟩:=z7m hb hb' (zlA Wx.2.2.1.2.1) (zlA Wy.2.2.1.2.1) (zph (by decide)) (zph (by decide)) h6
   simp only [qj,true_and] at h8;exact ⟨by rw [h1,h3,h5,h7],h8⟩
  | var r hr=>
   have rr:=Wy.2.2.2.2.1;simp only at rr;rw [txA,txA] at h;simp only [zdf,if_true,txR,show ¬ (4:Int)=0 by decide,show ¬ (4:Int)=1 by decide,show ¬ (4:Int)=2 by decide,show ¬ (4:Int)=3 by decide,if_false,List.cons_append,qj,true_and,List.append_assoc] at h
   exact absurd h.symm (tE r hr (zlA rr.1) _ _)
  | mon a b _ _ _ _ _=>rw [txA,txA] at h; simp [zdf,txR] at h
  | del a _ _ _ _=>rw [txA,txA] at h; simp [zdf,txR] at h
  | abs a _ _ _=>rw [txA,txA] at h; simp [zdf,txR] at h
def gF (V:yB->Bool) (f:Fc):Prop:=zdU V f.At=true/\zhD f.At/\rng f.Exp
theorem zbf7 {V:yB->Bool} (hA:RdA V) {f g:Fc} (hf:gF V f) (hg:gF V g) {u v:List UInt8} (hu:hd SF u) (hv:hd SF v) (h:txF f++u=txF g++v):f=g/\u=v:=by
 obtain ⟨x,e⟩:=f; obtain ⟨y,e'⟩:=g;obtain ⟨a1,a2,a3⟩:=hf; obtain ⟨b1,b2,b3⟩:=hg;simp only at a1 a2 a3 b1 b2 b3;have c94:∀ z,hd SA (94::z):=λz=>zph (by decide)
 have n94:(94:UInt8)∉SF:=by decide
 have dg:∀ c∈SF,zqV c=false:=λc hc=>z08 c (z0Q c hc)
 unfold txF zLi at h;simp only at h;by_cases h1:e=1
 ·by_cases h2:e'=1
  ·rw [if_pos h1,if_pos h2] at h;obtain ⟨q1,q2⟩:=hA x y a1 b1 a2 b2 u v (hu.mono z0Q) (hv.mono z0Q) h;exact ⟨by rw [q1,h1,h2],q2⟩
  ·rw [if_pos h1,if_neg h2,List.append_assoc] at h;obtain ⟨q1,q2⟩:=hA x y a1 b1 a2 b2 u _ (hu.mono z0Q) (c94 _) h;rw [q2] at hu;exact (hu.cons_ne n94).elim
 ·by_cases h2:e'=1
  ·rw [if_neg h1,if_pos h2,List.append_assoc] at h;obtain ⟨q1,q2⟩:=hA x y a1 b1 a2 b2 _ v (c94 _) (hv.mono z0Q) h;rw [<- q2] at hv;exact (hv.cons_ne n94).elim
  ·rw [if_neg h1,if_neg h2,List.append_assoc,List.append_assoc] at h;obtain ⟨q1,q2⟩:=hA x y a1 b1 a2 b2 _ _ (c94 _) (c94 _) h;simp only [List.cons_append,qj,true_and] at q2;obtain ⟨q3,q4⟩:=zus a3 b3 (hu.noDig dg) (hv.noDig dg) q2;exact ⟨by rw [q1,q3],q4⟩
theorem z23 {V:yB->Bool} (hA:RdA V) {l l':yC} (hl:l≠[]) (hl':l'≠[]) (h1:∀ f∈l,gF V f) (h2:∀ f∈l',gF V f) {u v:List UInt8} (hu:hd ST u) (hv:hd ST v) (h:txL l++u=txL l'++v):l=l'/\u=v:=by
 unfold txL at h;rw [zxo,zxo] at h;exact zLp txF ST 42 [] (gF V) (by decide) (λx y px py u v hu hv e=>zbf7 hA px py hu hv e) l l' hl hl' h1 h2 u v hu hv h
theorem zD0 {V:yB->Bool} {l:yC} (hl:l≠[]) (h:∀ f∈l,gF V f):∃ c r,txL l=c::r/\zqV c=false:=by
 cases l with
 | nil=>exact absurd rfl hl
 | cons f r=>
  obtain ⟨c,s,e,hc⟩:=zbb2 (h f (by simp)).1
  have:∃ s',txF f=c::s':=by
   unfold txF zLi;split
   ·exact ⟨s,e⟩
   ·exact ⟨_,by rw [e]; rfl⟩
  obtain ⟨s',e'⟩:=this;unfold txL;rw [zxo];cases r with
  | nil=>exact ⟨c,s',by simp only [List.map,zen]; exact e',hc⟩
  | cons g r=>exact ⟨c,_,by simp only [List.map,zen]; rw [e']; rfl,hc⟩
def gT (V:yB->Bool) (t:Term):Prop:=(1<=t.Cf/\t.Cf<=9223372036854775807)/\∀ f∈t.Fs,gF V f
theorem z2v {n:Int} (h:1<=n) (h2:n<=9223372036854775807):∃ c r,zif n=c::r/\zqV c=true/\c≠48:=by
 have e:zif n=Lib.decDigits n.toNat:=by rw [zYV (by omega) h2,Lib.itoa,if_neg (by omega)]
 obtain ⟨a1,a2,a3,a4⟩:=zVb n.toNat n.toNat (Nat.le_refl _);rw [e];cases hl:Lib.decDigits n.toNat with
 | nil=>exact absurd hl a3
 | cons c r=>
  rw [hl] at a1 a4;rw [List.all_cons,qc] at a1;exact ⟨c,r,rfl,a1.1,λe=>a4 (by omega) (by rw [e]; rfl)⟩
theorem z6c {l:yC}:zIT l=[]↔l=[]:=by rw [zxo,List.map_eq_nil_iff]
theorem z8a (t:Term):txT t=if t.Fs=[] then zif t.Cf else if t.Cf=1 then txL t.Fs else zif t.Cf++42::txL t.Fs:=by
 unfold txT zU0;by_cases h:t.Fs=[]
 ·rw [if_pos (z6c.2 h),if_pos h]
 ·rw [if_neg (λe=>h (z6c.1 e)),if_neg h]; rfl
theorem zbfn {V:yB->Bool} (hA:RdA V) {s t:Term} (hs:gT V s) (ht:gT V t) {u v:List UInt8} (hu:hd ST u) (hv:hd ST v) (h:txT s++u=txT t++v):s=t/\u=v:=by
 obtain ⟨c,l⟩:=s; obtain ⟨c',l'⟩:=t;obtain ⟨⟨c1,c2⟩,h1⟩:=hs; obtain ⟨⟨c1',c2'⟩,h2⟩:=ht;simp only at c1 c2 h1 c1' c2' h2;have dg:∀ c∈ST,zqV c=false:=λc hc=>z08 c (zbgj c hc)
 have n42:(42:UInt8)∉ST:=by decide
 have d42:∀ z,noDig (42::z):=λz c hc=>by simp only [List.head?_cons,qa] at hc; subst hc; rfl
 have rc:rng c:=⟨by omega,c2⟩
 have rc':rng c':=⟨by omega,c2'⟩
 obtain ⟨d,r,e,hd,_⟩:=z2v c1 c2;obtain ⟨d',r',e',hd',_⟩:=z2v c1' c2';rw [z8a,z8a] at h;simp only at h;by_cases l0:l=[]
 ·rw [if_pos l0] at h;by_cases l0':l'=[]
  ·rw [if_pos l0'] at h;obtain ⟨q1,q2⟩:=zus rc rc' (hu.noDig dg) (hv.noDig dg) h;exact ⟨by rw [q1,l0,l0'],q2⟩
  ·rw [if_neg l0'] at h;by_cases k':c'=1
   ·rw [if_pos k'] at h;obtain ⟨d2,r2,e2,hd2⟩:=zD0 l0' h2;rw [e,e2] at h;simp only [List.cons_append,qj] at h;rw [h.1,hd2] at hd; cases hd
   ·rw [if_neg k',List.append_assoc] at h;obtain ⟨q1,q2⟩:=zus rc rc' (hu.noDig dg) (d42 _) h;rw [q2] at hu;exact (hu.cons_ne n42).elim
 ·rw [if_neg l0] at h;by_cases k:c=1
  ·rw [if_pos k] at h;obtain ⟨d2,r2,e2,hd2⟩:=zD0 l0 h1;by_cases l0':l'=[]
   ·rw [if_pos l0',e2,e'] at h;simp only [List.cons_append,qj] at h;rw [<- h.1,hd2] at hd'; cases hd'
   ·rw [if_neg l0'] at h;by_cases k':c'=1
    ·rw [if_pos k'] at h;obtain ⟨q1,q2⟩:=z23 hA l0 l0' h1 h2 hu hv h;exact ⟨by rw [q1,k,k'],q2⟩
    ·rw [if_neg k',e2,e'] at h;simp only [List.cons_append,qj] at h;rw [<- h.1,hd2] at hd'; cases hd'
  ·rw [if_neg k,List.append_assoc] at h;by_cases l0':l'=[]
   ·rw [if_pos l0'] at h;obtain ⟨q1,q2⟩:=zus rc rc' (d42 _) (hv.noDig dg) h;rw [<- q2] at hv;exact (hv.cons_ne n42).elim
   ·rw [if_neg l0'] at h;by_cases k':c'=1
    ·rw [if_pos k'] at h;obtain ⟨d2,r2,e2,hd2⟩:=zD0 l0' h2;rw [e,e2] at h;simp only [List.cons_append,qj] at h;rw [h.1,hd2] at hd; cases hd
    ·rw [if_neg k',List.append_assoc] at h;obtain ⟨q1,q2⟩:=zus rc rc' (d42 _) (d42 _) h;simp only [List.cons_append,qj,true_and] at q2;obtain ⟨q3,q4⟩:=z23 hA l0 l0' h1 h2 hu hv q2;exact ⟨by rw [q1,q3],q4⟩
theorem zbcM {V:yB->Bool} {t:Term} (ht:gT V t):∃ c r,txT t=c::r/\c≠48:=by
 obtain ⟨⟨c1,c2⟩,h1⟩:=ht;obtain ⟨d,r,e,hd,h48⟩:=z2v c1 c2;rw [z8a];by_cases l0:t.Fs=[]
 ·rw [if_pos l0]; exact ⟨d,r,e,h48⟩
 ·rw [if_neg l0];split
  ·obtain ⟨d2,r2,e2,hd2⟩:=zD0 l0 h1;exact ⟨d2,r2,e2,λe=>by rw [e] at hd2; revert hd2; decide⟩
  ·exact ⟨d,_,by rw [e]; rfl,h48⟩
theorem zbfc {V:yB->Bool} (hA:RdA V) {a b:yB} (ha:∀ t∈a,gT V t) (hb:∀ t∈b,gT V t) {u v:List UInt8} (hu:hd SN u) (hv:hd SN v) (h:txN a++u=txN b++v):a=b/\u=v:=by
 have en:∀ z:yB,z≠[]->txN z=zen (z.map txT) [32,43,32]:=λz hz=>by
  unfold txN zQH; rw [zQP,if_neg (by simpa using hz)]
 have e0:txN []=[48]:=by unfold txN zQH; rw [zQs,if_pos rfl]
 have h48:∀ z:yB,z≠[]->(∀ t∈z,gT V t)->∃ c r,txN z=c::r/\c≠48:=λz hz hg=>by
  rw [en z hz];cases z with
  | nil=>exact absurd rfl hz
  | cons t r=>
   obtain ⟨c,s,e,hc⟩:=zbcM (hg t (by simp))
   cases r with
   | nil=>exact ⟨c,s,by simp only [List.map,zen]; exact e,hc⟩
   | cons t' r=>exact ⟨c,_,by simp only [List.map,zen]; rw [e]; rfl,hc⟩
 by_cases a0:a=[]
 ·by_cases b0:b=[]
  ·rw [a0,b0] at h;exact ⟨by rw [a0,b0],List.append_cancel_left h⟩
  ·obtain ⟨c,r,e,hc⟩:=h48 b b0 hb;rw [a0,e0,e] at h;simp only [List.cons_append,qj] at h;exact absurd h.1.symm hc
 ·by_cases b0:b=[]
  ·obtain ⟨c,r,e,hc⟩:=h48 a a0 ha;rw [b0,e0,e] at h;simp only [List.cons_append,qj] at h;exact absurd h.1 hc
  ·rw [en a a0,en b b0] at h;exact zLp txT SN 32 [43,32] (gT V) (by decide) (λx y px py u v hu hv e=>zbfn hA px py hu hv e) a b a0 b0 ha hb u v hu hv h
theorem zbda:∀ m,RdN (zbz m)/\RdA (zbz m):=by
 intro m;induction m with
 | zero=>
  have:RdN (zbz 0):=λa b ha=>by cases ha
  exact ⟨this,zbbm this⟩
 | succ m ih=>
  have:RdN (zbz (m+1)):=λa b ha hb wa wb u v hu hv h=>by
   have key:∀ z,zbz (m+1) z=true->zgh z->∀ t∈z,gT (zbz m) t:=λz hz wz t ht=>by
    obtain ⟨⟨c1,c2⟩,hok⟩:=zul hz ht;have hwt:=znP (zuE (zrI wz t ht)).2.1;exact ⟨⟨c1,by omega⟩,λf hf=>⟨(zoL hok hf).2,(zpH (hwt f hf)).1,zlA (zpH (hwt f hf)).2⟩⟩
   exact zbfc ih.2 (key a ha wa) (key b hb wb) hu hv h
  exact ⟨this,zbbm this⟩
theorem zbeo {m:Nat} {l l':yC} (h1:∀ f∈l,gF (zbz m) f) (h2:∀ f∈l',gF (zbz m) f) (h:txL l=txL l'):l=l':=by
 have e0:txL []=[]:=by unfold txL; rw [zIT]; rfl
 by_cases l0:l=[]
 ·by_cases l0':l'=[]
  ·rw [l0,l0']
  ·obtain ⟨c,r,e,_⟩:=zD0 l0' h2;rw [l0,e0,e] at h; cases h
 ·by_cases l0':l'=[]
  ·obtain ⟨c,r,e,_⟩:=zD0 l0 h1;rw [l0',e0,e] at h; cases h
  ·exact (z23 (zbda m).2 l0 l0' h1 h2 (u:=[]) (v:=[]) (λc hc=>by cases hc) (λc hc=>by cases hc) (by rw [h])).1
def zyh (a b:Int):Int:=if 1152921504606846976<a+b then 1152921504606846976 else a+b
def cT (x y:Term):Int:=zbs (zbv x.Fs) (zbv y.Fs)
theorem zWq {x y:Term} (h:cT x y=0):x.Fs=y.Fs:=zzO _ _ (zH5 _ _ h)
theorem zIb {x y:Term} (h:x.Fs=y.Fs):cT x y=0:=by unfold cT; rw [h]; exact zVu _
def ziD (t:Term):yB->yB
 | []=>[t]
 | x::r=>if cT x t<0 then x::ziD t r else if cT x t=0 then ⟨zyh x.Cf t.Cf,t.Fs⟩::r else t::x::r
def zmF (t:Term):yB->yB
 | []=>[t]
 | x::r=>if x.Fs=t.Fs then ⟨zyh x.Cf t.Cf,x.Fs⟩::r else x::zmF t r
abbrev Srs (l:yB):Prop:=l.Pairwise λx y=>cT x y<0
abbrev Dst (l:yB):Prop:=l.Pairwise λx y=>x.Fs≠y.Fs
theorem Srs.dst {l:yB} (h:Srs l):Dst l:=h.imp λ{x y} hxy e=>by rw [zIb e] at hxy; omega
def SM (l:yB) (t y:Term):Prop:=(y∈l/\y.Fs≠t.Fs)\/(y.Fs=t.Fs/\((∃ x∈l,x.Fs=t.Fs/\y.Cf=zyh x.Cf t.Cf)\/((∀ x∈l,x.Fs≠t.Fs)/\y.Cf=t.Cf)))
theorem z9u {x y:Term} (h1:x.Cf=y.Cf) (h2:x.Fs=y.Fs):x=y:=by cases x; cases y; simp_all
theorem zJj {x y z:Term} (h1:cT x y<0) (h2:cT y z<0):cT x z<0:=z5f h1 h2
theorem zD2 (x y:Term):cT y x= - cT x y:=zFE _ _
theorem z1q {x t y:Term} {r:yB} (hx:x.Fs≠t.Fs) (hr:∀ z∈r,x.Fs≠z.Fs):SM (x::r) t y↔y=x\/SM r t y:=by
 unfold SM;constructor
 ·rintro (⟨h1,h2⟩ | ⟨h1,⟨z,hz,h2,h3⟩ | ⟨h2,h3⟩⟩)
  ·rcases qd.1 h1 with rfl | h1
   ·exact .inl rfl
   ·exact .inr (.inl ⟨h1,h2⟩)
  ·rcases qd.1 hz with rfl | hz
   ·exact absurd h2 hx
   ·exact .inr (.inr ⟨h1,.inl ⟨z,hz,h2,h3⟩⟩)
  ·exact .inr (.inr ⟨h1,.inr ⟨λz hz=>h2 z (by simp [hz]),h3⟩⟩)
 ·rintro (rfl | ⟨h1,h2⟩ | ⟨h1,⟨z,hz,h2,h3⟩ | ⟨h2,h3⟩⟩)
  ·exact .inl ⟨by simp,hx⟩
  ·exact .inl ⟨by simp [h1],h2⟩
  ·exact .inr ⟨h1,.inl ⟨z,by simp [hz],h2,h3⟩⟩
  ·exact .inr ⟨h1,.inr ⟨λz hz=>by
    rcases qd.1 hz with rfl | hz
    ·exact hx
    ·exact h2 z hz,h3⟩⟩
theorem z1W {t y:Term} {l:yB} (h:∀ z∈l,z.Fs≠t.Fs):SM l t y↔y=t\/y∈l:=by
 unfold SM;constructor
 ·rintro (⟨h1,h2⟩ | ⟨h1,⟨z,hz,h2,h3⟩ | ⟨h2,h3⟩⟩)
  ·exact .inr h1
  ·exact absurd h2 (h z hz)
  ·exact .inl (z9u h3 h1)
 ·rintro (rfl | h1)
  ·exact .inr ⟨rfl,.inr ⟨h,rfl⟩⟩
  ·exact .inl ⟨h1,h y h1⟩
theorem zbbx {x t y:Term} {r:yB} (hx:x.Fs=t.Fs) (hr:∀ z∈r,z.Fs≠t.Fs):SM (x::r) t y↔y=⟨zyh x.Cf t.Cf,t.Fs⟩\/y∈r:=by
 unfold SM;constructor
 ·rintro (⟨h1,h2⟩ | ⟨h1,⟨z,hz,h2,h3⟩ | ⟨h2,h3⟩⟩)
  ·rcases qd.1 h1 with rfl | h1
   ·exact absurd hx h2
   ·exact .inr h1
  ·rcases qd.1 hz with rfl | hz
   ·exact .inl (z9u h3 h1)
   ·exact absurd h2 (hr z hz)
  ·exact absurd hx (h2 x (by simp))
 ·rintro (rfl | h1)
  ·exact .inr ⟨rfl,.inl ⟨x,by simp,hx,rfl⟩⟩
  ·exact .inl ⟨by simp [h1],hr y h1⟩
theorem zNW {t y:Term}:∀ {l:yB},Srs l->(y∈ziD t l↔SM l t y)
 | [],_=>by rw [z1W (by simp)]; simp [ziD]
 | x::r,h=>by
  have hc:=qi.1 h;have hd:=qi.1 h.dst;unfold ziD;by_cases h1:cT x t<0
  ·rw [if_pos h1,qd,z1q (λe=>by rw [zIb e] at h1; omega) hd.1,zNW hc.2]
  ·rw [if_neg h1];by_cases h2:cT x t=0
   ·rw [if_pos h2,List.mem_cons,zbbx (zWq h2) λz hz e=>by
     have:=hc.1 z hz; rw [zIb ((zWq h2).trans e.symm)] at this; omega]
   ·rw [if_neg h2,z1W λz hz e=>by
     have a:=zD2 x t;rcases qd.1 hz with rfl | hz
     ·exact h2 (zIb e)
     ·have b:=zJj (show cT t x<0 by omega) (hc.1 z hz)
      rw [zIb e.symm] at b; omega]
    rw [qd]
theorem z1R {t y:Term}:∀ {l:yB},Dst l->(y∈zmF t l↔SM l t y)
 | [],_=>by rw [z1W (by simp)]; simp [zmF]
 | x::r,h=>by
  have hd:=qi.1 h;unfold zmF;by_cases h2:x.Fs=t.Fs
  ·rw [if_pos h2,qd,zbbx h2 λz hz e=>hd.1 z hz (h2.trans e.symm),h2]
  ·rw [if_neg h2,qd,z1q h2 hd.1,z1R hd.2]
theorem zAO {t:Term}:∀ {l:yB},Srs l->Srs (ziD t l)
 | [],_=>by simp [ziD]
 | x::r,h=>by
  have hc:=qi.1 h;unfold ziD;by_cases h1:cT x t<0
  ·rw [if_pos h1];refine qi.2 ⟨λz hz=> ?_,zAO hc.2⟩
   rcases (zNW hc.2).1 hz with ⟨h2,_⟩ | ⟨h2,_⟩
   ·exact hc.1 z h2
   ·have:cT x z=cT x t:=by unfold cT; rw [h2]
    rw [this]; exact h1
  ·rw [if_neg h1];by_cases h2:cT x t=0
   ·rw [if_pos h2];refine qi.2 ⟨λz hz=> ?_,hc.2⟩
    have:=hc.1 z hz;unfold cT at this ⊢;rw [<- zWq h2]; exact this
   ·rw [if_neg h2];have a:=zD2 x t;refine qi.2 ⟨λz hz=> ?_,h⟩
    rcases qd.1 hz with rfl | hz
    ·omega
    ·exact zJj (show cT t x<0 by omega) (hc.1 z hz)
theorem z2o {t:Term}:∀ {l:yB},Dst l->Dst (zmF t l)
 | [],_=>by simp [zmF]
 | x::r,h=>by
  have hc:=qi.1 h;unfold zmF;by_cases h2:x.Fs=t.Fs
  ·rw [if_pos h2];exact qi.2 ⟨λz hz=>hc.1 z hz,hc.2⟩
  ·rw [if_neg h2];refine qi.2 ⟨λz hz=> ?_,z2o hc.2⟩
   rcases (z1R hc.2).1 hz with ⟨h3,_⟩ | ⟨h3,_⟩
   ·exact hc.1 z h3
   ·rw [h3]; exact h2
theorem Dst.nodup {l:yB} (h:Dst l):l.Nodup:=h.imp λ{x y} hxy e=>hxy (by rw [e])
theorem zbdY {l l':yB} (h:l.Perm l') (t y:Term):SM l t y↔SM l' t y:=by
 unfold SM;simp only [h.mem_iff]
theorem zbby {l l':yB} (t:Term) (h:l.Perm l') (hs:Srs l) (hd:Dst l'):(ziD t l).Perm (zmF t l'):=
 (List.perm_ext_iff_of_nodup (zAO hs).dst.nodup (z2o hd).nodup).2 λy=>by rw [zNW hs,z1R hd,zbdY h]
def zeC (a b:yB):yB:=b.foldl (λa t=>ziD t a) a
def zLm (ts:yB):yB:=ts.foldl (λa t=>zmF t a) []
theorem zOB:∀ (b a:yB),Srs a->Srs (zeC a b)
 | [],_,h=>h
 | t::r,a,h=>zOB r (ziD t a) (zAO h)
theorem z3x:∀ (ts l l':yB),l.Perm l'->Srs l->Dst l'->(zeC l ts).Perm (ts.foldl (λa t=>zmF t a) l')/\Dst (ts.foldl (λa t=>zmF t a) l')
 | [],l,l',h,_,hd=>⟨h,hd⟩
 | t::r,l,l',h,hs,hd=>z3x r (ziD t l) (zmF t l') (zbby t h hs hd) (zAO hs) (z2o hd)
theorem z6D {t:Term}:∀ {l:yB},(∀ x∈l,cT x t<0)->ziD t l=l++[t]
 | [],_=>rfl
 | x::r,h=>by
  unfold ziD;rw [if_pos (h x (by simp)),z6D λy hy=>h y (by simp [hy])]; rfl
theorem z2d:∀ (r l:yB),Srs (l++r)->zeC l r=l++r
 | [],l,_=>by simp [zeC]
 | t::r,l,h=>by
  have e:zeC l (t::r)=zeC (ziD t l) r:=rfl;have hp:=List.pairwise_append.1 h;rw [e,z6D λx hx=>hp.2.2 x hx t (by simp),z2d r (l++[t]) (by simpa using h)]
  simp
theorem sum_nil {a:yB} (h:Srs a):zeC [] a=a:=z2d a [] h
theorem zbdP (a b:yB) (h:Srs a):zeC [] (a++b)=zeC a b:=by
 show (a++b).foldl (λa t=>ziD t a) []=_
 rw [List.foldl_append];show zeC (zeC [] a) b=_;rw [sum_nil h]
theorem zIa {y:Term}:∀ (b a:yB),Srs a->y∈zeC a b->∃ x,(x∈a\/x∈b)/\y.Fs=x.Fs
 | [],a,_,h=>⟨y,.inl h,rfl⟩
 | t::r,a,hs,h=>by
  obtain ⟨x,hx,e⟩:=zIa r (ziD t a) (zAO hs) h;rcases hx with hx | hx
  ·rcases (zNW hs).1 hx with ⟨h1,_⟩ | ⟨h1,_⟩
   ·exact ⟨x,.inl h1,e⟩
   ·exact ⟨t,.inr (by simp),e.trans h1⟩
  ·exact ⟨x,.inr (by simp [hx]),e⟩
theorem z3N {a b:Int} (ha:1<=a) (hb:1<=b):1<=zyh a b/\zyh a b<=1152921504606846976:=by
 unfold zyh;split
 ·omega
 ·omega
def cOK (t:Term):Prop:=1<=t.Cf/\t.Cf<=1152921504606846976
theorem zbaI {t:Term} (ht:cOK t):∀ {l:yB},(∀ x∈l,cOK x)->∀ x∈ziD t l,cOK x
 | [],_,x,hx=>by simp only [ziD,qh] at hx; subst hx; exact ht
 | y::r,h,x,hx=>by
  unfold ziD at hx;split at hx
  ·rcases qd.1 hx with rfl | hx
   ·exact h _ (by simp)
   ·exact zbaI ht (λz hz=>h z (by simp [hz])) x hx
  ·split at hx
   ·rcases qd.1 hx with rfl | hx
    ·exact z3N (h y (by simp)).1 ht.1
    ·exact h x (by simp [hx])
   ·rcases qd.1 hx with rfl | hx
    ·exact ht
    ·exact h x hx
theorem z9H:∀ (b:yB) {a:yB},(∀ x∈a,cOK x)->(∀ x∈b,cOK x)->∀ x∈zeC a b,cOK x
 | [],a,ha,_=>ha
 | t::r,a,ha,hb=>z9H r (zbaI (hb t (by simp)) ha) λx hx=>hb x (by simp [hx])
theorem zWv {t:Term}:∀ (l:yB),(ziD t l).length<=l.length+1
 | []=>by simp [ziD]
 | x::r=>by
  have:=zWv (t:=t) r;unfold ziD;split
  ·simp only [qf]; omega
  ·split <;>simp
theorem zD4:∀ (b a:yB),(zeC a b).length<=a.length+b.length
 | [],a=>by simp [zeC]
 | t::r,a=>by
  have h1:=zD4 r (ziD t a);have h2:=zWv (t:=t) a;show (zeC (ziD t a) r).length<=_;simp only [qf]; omega
def cF (x y:Fc):Int:=zbb (zdN x.At) (zdN y.At)
theorem z9c {x y:Fc} (h:cF x y=0):x.At=y.At:=z1x _ _ (zry _ _ h)
theorem zbdH (x y:Fc):cF y x= - cF x y:=zfE _ _
theorem z4T {a b c:TT} (h1:zbb a b<0) (h2:zbb b c<0):zbb a c<0:=by
 have h:=zrC a b c (by omega) (by omega)
 by_cases e:zbb a c=0
 ·have e':=zry a c e;subst e';have:=zfE a b;omega
 ·omega
theorem zEd {x y z:Fc} (h1:cF x y<0) (h2:cF y z<0):cF x z<0:=z4T h1 h2
abbrev Srf (l:yC):Prop:=l.Pairwise λx y=>cF x y<0
def zGE (f:Fc):yC->yC
 | []=>[f]
 | x::r=>if cF x f<0 then x::zGE f r else if cF x f=0 then (if f.At.Kind<3 then ⟨f.At,x.Exp+f.Exp⟩ else f)::r else f::x::r
def zbK:yC->yC->yC
 | [],b=>b
 | x::a,[]=>x::a
 | x::a,y::b=>if cF x y<0 then x::zbK a (y::b) else if 0<cF x y then y::zbK (x::a) b else (if x.At.Kind=3\/x.At.Kind=4 then x else ⟨x.At,x.Exp+y.Exp⟩)::zbK a b
termination_by a b=>a.length+b.length
theorem zLq (a:yC):zbK a []=a:=by cases a <;>rw [zbK]
theorem zJy {m:Fc} {L b:yC} (h:∀ z∈b,cF m z<0):zbK (m::L) b=m::zbK L b:=by
 cases b with
 | nil=>rw [zLq,zLq]
 | cons z b=>rw [zbK,if_pos (h z (by simp))]
def eOK (f:Fc):Prop:=(0<=f.At.Kind/\f.At.Kind<=4)/\(f.At.Kind=3\/f.At.Kind=4->f.Exp=1)
theorem z7f {y:Fc} {b:yC} (hb:∀ z∈b,cF y z<0) (hy:eOK y):∀ {a:yC},(∀ x∈a,eOK x)->zbK (zGE y a) b=zbK a (y::b)
 | [],_=>by
  rw [zGE,zJy hb,zbK,zbK]
 | x::a,ha=>by
  unfold zGE;by_cases h1:cF x y<0
  ·rw [if_pos h1,zJy λz hz=>zEd h1 (hb z hz),z7f hb hy λz hz=>ha z (by simp [hz]),zJy (m:=x) (b:=y::b) λz hz=>by
    rcases qd.1 hz with rfl | hz
    ·exact h1
    ·exact zEd h1 (hb z hz)]
  ·rw [if_neg h1];by_cases h2:cF x y=0
   ·have ea:=z9c h2
    rw [if_pos h2,zJy λz hz=>by
     have e:(if y.At.Kind<3 then (⟨y.At,x.Exp+y.Exp⟩:Fc) else y).At=y.At:=by split <;>rfl
     have:=hb z hz;unfold cF at this ⊢; rw [e]; exact this]
    rw [zbK,if_neg h1,if_neg (show ¬ 0<cF x y by omega)]
    congr 1;have hx:=ha x (by simp)
    obtain ⟨xa,xe⟩:=x;obtain ⟨ya,ye⟩:=y;simp only at ea;subst ea;obtain ⟨⟨k0,k4⟩,h3⟩:=hx;obtain ⟨_,h3'⟩:=hy;simp only at k0 k4 h3 h3' ⊢;by_cases hk:xa.Kind<3
    ·rw [if_pos hk,if_neg (by omega)]
    ·have hk':xa.Kind=3\/xa.Kind=4:=by omega
     rw [if_neg hk,if_pos hk',h3 hk',h3' hk']
   ·rw [if_neg h2,zJy hb];rw [zbK,if_neg h1,if_pos (by omega)]
theorem zP1:∀ (b a:yC),Srf b->(∀ x∈a,eOK x)->(∀ x∈b,eOK x)->b.foldl (λl f=>zGE f l) a=zbK a b
 | [],a,_,_,_=>by rw [zLq]; rfl
 | y::b,a,hs,ha,hb=>by
  have hc:=qi.1 hs;have hy:=hb y (by simp)
  rw [List.foldl_cons,zP1 b (zGE y a) hc.2 (λx hx=> ?_) λx hx=>hb x (by simp [hx]),z7f hc.1 hy ha]
  -- kinds and exponents are kept
  clear hs hc hb;induction a with
  | nil=>simp only [zGE,qh] at hx; subst hx; exact hy
  | cons z r ih=>
   unfold zGE at hx;split at hx
   ·rcases qd.1 hx with rfl | hx
    ·exact ha _ (by simp)
    ·exact ih (λw hw=>ha w (by simp [hw])) hx
   ·split at hx
    ·rcases qd.1 hx with rfl | hx
     ·split
      ·rename_i hk; exact ⟨hy.1,λh=>by simp only at h; omega⟩
      ·exact hy
     ·exact ha x (by simp [hx])
    ·rcases qd.1 hx with rfl | hx
     ·exact hy
     ·exact ha x hx
theorem zsU {x:Fc}:∀ {a b:yC},x∈zbK a b->∃ y,(y∈a\/y∈b)/\x.At=y.At
 | [],b,h=>⟨x,.inr (by rwa [zbK] at h),rfl⟩
 | y::a,[],h=>⟨x,.inl (by rwa [zbK] at h),rfl⟩
 | y::a,z::b,h=>by
  rw [zbK] at h;split at h
  ·rcases qd.1 h with rfl | h
   ·exact ⟨x,.inl (by simp),rfl⟩
   ·obtain ⟨w,hw,e⟩:=zsU h;rcases hw with hw | hw
    ·exact ⟨w,.inl (by simp [hw]),e⟩
    ·exact ⟨w,.inr hw,e⟩
  ·split at h
   ·rcases qd.1 h with rfl | h
    ·exact ⟨x,.inr (by simp),rfl⟩
    ·obtain ⟨w,hw,e⟩:=zsU h;rcases hw with hw | hw
     ·exact ⟨w,.inl hw,e⟩
     ·exact ⟨w,.inr (by simp [hw]),e⟩
   ·rcases qd.1 h with rfl | h
    ·exact ⟨y,.inl (by simp),by split <;>rfl⟩
    ·obtain ⟨w,hw,e⟩:=zsU h;rcases hw with hw | hw
     ·exact ⟨w,.inl (by simp [hw]),e⟩
     ·exact ⟨w,.inr (by simp [hw]),e⟩
termination_by a b=>a.length+b.length
theorem zJf:∀ (a b:yC),(zbK a b).length<=a.length+b.length
 | [],b=>by rw [zbK]; simp
 | y::a,[]=>by rw [zbK]; simp
 | y::a,z::b=>by
  rw [zbK];split
  ·have:=zJf a (z::b); simp only [qf] at this ⊢; omega
  ·split
   ·have:=zJf (y::a) b; simp only [qf] at this ⊢; omega
   ·have:=zJf a b; simp only [qf] at this ⊢; omega
termination_by a b=>a.length+b.length
theorem zIM {x:Fc} {B:Int}:∀ {a b:yC},(∀ y∈a,1<=y.Exp/\y.Exp<=B)->(∀ y∈b,1<=y.Exp/\y.Exp<=B)->x∈zbK a b->1<=x.Exp/\x.Exp<=2*B
 | [],b,ha,hb,h=>by rw [zbK] at h; have:=hb x h; omega
 | y::a,[],ha,hb,h=>by rw [zbK] at h; have:=ha x h; omega
 | y::a,z::b,ha,hb,h=>by
  have hy:=ha y (by simp)
  have hz:=hb z (by simp)
  rw [zbK] at h;split at h
  ·rcases qd.1 h with rfl | h
   ·omega
   ·exact zIM (λw hw=>ha w (by simp [hw])) hb h
  ·split at h
   ·rcases qd.1 h with rfl | h
    ·omega
    ·exact zIM ha (λw hw=>hb w (by simp [hw])) h
   ·rcases qd.1 h with rfl | h
    ·split
     ·omega
     ·simp only; omega
    ·exact zIM (λw hw=>ha w (by simp [hw])) (λw hw=>hb w (by simp [hw])) h
termination_by a b=>a.length+b.length
def zxW (a b:Int):Int:=if Int.tdiv 1152921504606846976 b<a then 1152921504606846976 else a*b
def zk7 (x y:Term):Term:=⟨zxW x.Cf y.Cf,zbK x.Fs y.Fs⟩
def zfD (a b:yB):yB:=a.flatMap λx=>b.map (zk7 x)
def ztd (a b:yB):yB:=zeC [] (zfD a b)
theorem z1w {a b:Int} (ha:1<=a/\a<=1152921504606846976) (hb:1<=b/\b<=1152921504606846976):(1<=zxW a b/\zxW a b<=1152921504606846976)/\(¬ Int.tdiv 1152921504606846976 b<a->a*b<=1152921504606846976):=by
 have h1:¬ Int.tdiv 1152921504606846976 b<a->a*b<=1152921504606846976:=λh=>by
  rw [Int.tdiv_eq_ediv_of_nonneg (by omega)] at h
  have h2:a<=1152921504606846976 / b:=by omega
  exact (Int.le_ediv_iff_mul_le (by omega)).1 h2
 refine ⟨?_,h1⟩;unfold zxW;split
 ·omega
 ·rename_i h;refine ⟨?_,h1 h⟩;have:=Int.mul_le_mul ha.1 hb.1 (by omega) (by omega)
  omega
theorem z3o {t:Term} {a b:yB} (h:t∈zfD a b):∃ x∈a,∃ y∈b,t=zk7 x y:=by
 obtain ⟨x,hx,ht⟩:=List.mem_flatMap.1 h;obtain ⟨y,hy,rfl⟩:=List.mem_map.1 ht;exact ⟨x,hx,y,hy,rfl⟩
theorem zVc (a b:yB):(zfD a b).length=a.length*b.length:=by
 unfold zfD;induction a with
 | nil=>simp
 | cons x r ih=>rw [List.flatMap_cons,qg,ih,List.length_map,qf,Nat.add_mul]; omega
end Go.Proofs.YtoknknbmfmddbaaGreatDoor
end
