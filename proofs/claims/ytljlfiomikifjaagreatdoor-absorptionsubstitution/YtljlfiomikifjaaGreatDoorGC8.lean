/- Texts of this claim, joined (the program, its functions in plain words, and what they compute). -/
import Derived.Test.YtljlfiomikifjaaGreatDoorGC7
set_option autoImplicit false
set_option linter.unusedVariables false
set_option linter.unusedSectionVars false
set_option linter.unusedSimpArgs false
set_option maxRecDepth 1000000
set_option maxHeartbeats 0
/- Which annotations are valid: both sides compute the same. -/
noncomputable section
namespace Go.Proofs.YtljlfiomikifjaaGreatDoor
open Go Go.Ab
def rz (r:RowID):Bool:=r.Table==(0:Int)&&(r.Seq==(0:Int)&&true)
def zrl (V:yC→Bool) (l:yA):Bool:=l.all fun a=>V a&& !(a.length==0)
def zDf (V:yC→Bool) (l:yE):Bool:=l.all fun w=>V w.Ann&& !(w.Ann.length==0)
def zxo (r:RowID):Bool:=decide (r.Table≥1)&&decide (r.Seq≥1)
def zGu (p:yC→Bool):yA→Bool
 | [a]=>p a
 | _=>false
def z1s (p:yC→yC→Bool):yA→Bool
 | [a,b]=>p a b
 | _=>false
def zdt (V:yC→Bool) (x:Atom):Bool:=
 zrl V x.Args&&
 if x.Kind=0 then plA x&&zxo x.Row&&(x.Args.length==0)
 else rz x.Row&&
  if x.Kind=1 then plA x&&z1s (fun a b=> !decide (a=b)) x.Args
  else if x.Kind=2 then plA x&&zGu (fun a=> !isC a&& !isU a) x.Args
  else if x.Kind=3 then plA x&&zGu (fun a=> !hasC a) x.Args
  else if x.Kind=4 then (x.Args.length==0)&&decide (0<x.Items.length)&&zDf V x.Items&&srtW x.Items&&fitK x.Func x.Items x.Op x.Bound
  else false
def chkF (vat:Atom→Bool) (fs:yD) (k:Nat):Bool:=
 decide (1≤(fs.getD k default).Exp)&& !(((fs.getD k default).Atom.Kind==3||(fs.getD k default).Atom.Kind==4)&&(fs.getD k default).Exp != 1)&&
  (decide (k=0)||decide (cmpT (zdJ (fs.getD (k - 1) default).Atom) (zdJ (fs.getD k default).Atom)<0))&&vat (fs.getD k default).Atom
def okF (vat:Atom→Bool) (fs:yD):Bool:=allN (chkF vat fs) fs.length 0
def chkT (vat:Atom→Bool) (a:yC) (i:Nat):Bool:=
 decide (1≤(a.getD i default).Coeff)&&decide ((a.getD i default).Coeff≤1152921504606846976)&&
  (decide (i=0)||decide (cmpL (zbA (a.getD (i - 1) default).Factors) (zbA (a.getD i default).Factors)<0))&&okF vat (a.getD i default).Factors
def vAnn (vat:Atom→Bool) (a:yC):Bool:=zeQ a&&allN (chkT vat a) a.length 0
def zbj:Nat→yC→Bool
 | 0,_=>false
 | n+1,a=>vAnn (zdt (zbj n)) a
theorem zD3 (r:RowID):zqF r=(true,zxo r):=by
 unfold zqF zP9 zxo;rw [Wy.fin_i,Wy.fin_k,Wy.fin_k];cases decide (r.Table≥1) <;>rfl
theorem zAH {V:yC→Bool} {x:Atom} (h:zdt V x=true):0≤x.Kind∧x.Kind≤4:=by
 unfold zdt at h;by_cases h0:x.Kind=0
 ·omega
 by_cases h1:x.Kind=1
 ·omega
 by_cases h2:x.Kind=2
 ·omega
 by_cases h3:x.Kind=3
 ·omega
 by_cases h4:x.Kind=4
 ·omega
 simp [h0,h1,h2,h3,h4] at h
theorem zxe (l k:Nat):((Int.ofNat l)==(k:Int))=(l==k):=by
 rw [beqd,beqn]; congr 1; simp; omega
section
variable (V:yC→Bool) (gW:yE→Bool×Bool) (gA:yA→Bool×Bool) (c1:yC→Bool×Bool) (c2:Weighted→Bool×Bool)
theorem z35 (x:Atom) {d:Nat} (hx:zcU (zr d) x) (hd:d≤99) (hA:gA x.Args=(true, !zrl V x.Args)) (hW:gW x.Items=(true, !zDf V x.Items)):
  zjI gA c1 gW c2 x=(true,zdt V x):=by
 have hS:=z8K x.Items hx.1.2.1 (fun w hw=>(hx.2.2 w hw).2) hd
 have hF:=z2J x.Func x.Items x.Op x.Bound hx.1.2.1;have hE:∀ a∈x.Args,∀ b,zeW a b=(true,decide (a=b)):=fun a ha b=>zrI (hx.2.1 a ha) (by omega) b
 have hC:∀ a∈x.Args,zeY a=(true,hasC a):=fun a ha=>zPJ a (by
  have:=hx.2.1 a ha;cases d with
  | zero=>exact this.elim
  | succ d=>have:=this.1; omega)
 obtain ⟨k,r,l,f,its,o,b⟩:=x;simp only at hA hW hS hF hE hC;unfold zjI zca zdt plA;simp only [zD3,hA,hW,hS,hF,Wy.fin_i,Wy.fin_k,Wy.fin_bn,cond_true]
 rw [show (b.Kind==(0:Int)&&(b.Int==(0:Int)&&(b.Text.toList==(ByteArray.mk #[]).toList&&true)))=bz b from rfl,
  show (r.Table==(0:Int)&&(r.Seq==(0:Int)&&true))=rz r from rfl,
  show (Int.ofNat its.length != 0)= !(its.length==0) from congrArg not (zxe its.length 0),show (f != 0)= !(f==0) from rfl,show (o != 0)= !(o==0) from rfl]
 generalize zrl V l=A at *;generalize zDf V its=W at *;generalize bz b=B at *;generalize (f==0)=F at *;generalize (o==0)=O at *;generalize rz r=R at *;generalize zxo r=RO at *;generalize srtW its=S at *;generalize fitK f its o b=K at *;have hgt:decide (Int.ofNat its.length>0)=decide (0<its.length):=zoK its.length 0;rw [hgt];generalize (its.length==0)=I at *;generalize decide (0<its.length)=J at *;by_cases h0:k=0
 ·subst h0;simp only [zxe,show ((Int.ofNat l.length)==(0:Int))=(l.length==0) from zxe l.length 0]
  generalize (l.length==0)=L;cases F <;>cases I <;>cases O <;>cases B <;>cases A <;>cases RO <;>rfl
 by_cases h1:k=1
 ·subst h1
  match l,hE with
  | [],_=>cases F <;>cases I <;>cases O <;>cases B <;>cases A <;>cases R <;>rfl
  | [u],_=>cases F <;>cases I <;>cases O <;>cases B <;>cases A <;>cases R <;>rfl
  | [u,v],hE=>
   have e:=hE u (by simp) v
   simp only [List.getD,qf,List.length_nil,Int.toNat_zero,List.getElem?_cons_zero,List.getElem?_cons_succ,Option.getD,show Int.toNat 1=1 from rfl,z1s]
   simp only [e];generalize decide (u=v)=E;cases F <;>cases I <;>cases O <;>cases B <;>cases A <;>cases R <;>rfl
  | u::v::w::l,_=>
   have e:((Int.ofNat (u::v::w::l).length)==(2:Int))=false:=by rw [beq_eq_false_iff_ne]; simp; omega
   simp only [e];cases F <;>cases I <;>cases O <;>cases B <;>cases A <;>cases R <;>rfl
 by_cases h2:k=2
 ·subst h2
  match l with
  | []=>cases F <;>cases I <;>cases O <;>cases B <;>cases A <;>cases R <;>rfl
  | [u]=>
   simp only [List.getD,qf,List.length_nil,Int.toNat_zero,List.getElem?_cons_zero,Option.getD,zGu,zTg,z4y];generalize isC u=E;generalize isU u=E';cases F <;>cases I <;>cases O <;>cases B <;>cases A <;>cases R <;>cases E <;>cases E' <;>rfl
  | u::v::l=>
   simp only [len2];cases F <;>cases I <;>cases O <;>cases B <;>cases A <;>cases R <;>rfl
 by_cases h3:k=3
 ·subst h3
  match l,hC with
  | [],_=>cases F <;>cases I <;>cases O <;>cases B <;>cases A <;>cases R <;>rfl
  | [u],hC=>
   have e:=hC u (by simp)
   simp only [List.getD,qf,List.length_nil,Int.toNat_zero,List.getElem?_cons_zero,Option.getD,zGu];simp only [e];generalize hasC u=E;cases F <;>cases I <;>cases O <;>cases B <;>cases A <;>cases R <;>cases E <;>rfl
  | u::v::l,_=>
   simp only [len2];cases F <;>cases I <;>cases O <;>cases B <;>cases A <;>cases R <;>rfl
 by_cases h4:k=4
 ·subst h4;simp only [show ((Int.ofNat l.length)==(0:Int))=(l.length==0) from zxe l.length 0]
  generalize (l.length==0)=L;cases A <;>cases W <;>cases L <;>cases J <;>cases S <;>cases K <;>cases R <;>rfl
 simp only [beqd,h0,h1,h2,h3,h4,decide_false,if_false,cond_false];cases F <;>cases I <;>cases O <;>cases B <;>cases A <;>cases R <;>rfl
end
section
variable (V:yC→Bool) (g:yC→Bool×Bool)
theorem zbge (x:Atom) (hl:x.Args.length≤1000000) (hg:∀ a∈x.Args,g a=(true,V a)) (n:Nat) (hn:x.Args.length<n):zwW g n 0 x=(true,bif zrl V x.Args then .inr x else .inl false):=by
 have:=zef (W:=zxk g) (z:=.inl default) x.Args.length (fun i=>((),(i:Int),())) (fun _=>(x,())) (fun i=>(fun a:yC=>V a&& !(a.length==0)) (x.Args.getD i default)) (.inl false) (.inr x)
  (fun i hi H K D=>by
   show (zlA g i x).ev H K D=_;unfold zlA;have hL:decide ((i:Int)<Int.ofNat x.Args.length)=true:=by simp [hi]
   simp only [Wy.ev_i,Wy.ev_k,Wy.ev_h,Wy.ev_bn,Wy.ev_d,hL,zfc,Bool.and_self,cond_true,Int.toNat_natCast,hg _ (zt hi)];rw [zR (by omega),show (Int.ofNat (x.Args.getD i default).length==(0:Int))=((x.Args.getD i default).length==0) from zxe _ 0]
   cases V (x.Args.getD i default) <;>cases ((x.Args.getD i default).length==0) <;>rfl)
  (fun H K D=>by
   show (zlA g x.Args.length x).ev H K D=_;unfold zlA;have hL:decide ((x.Args.length:Int)<Int.ofNat x.Args.length)=false:=by simp
   simp only [Wy.ev_i,Wy.ev_k,hL,cond_false]) n hn
 rw [zAa (fun a:yC=>V a&& !(a.length==0))] at this
 exact this
theorem z58 {τ:Type} [Inhabited τ] (l:List τ) (i:Nat) (h:i<l.length):List.take 1 (List.drop i l)=[l.getD i default]:=by
 rw [zbB h]; rfl
theorem zbdy (x y:TT):cmpL [x] [y]=cmpT x y:=by
 simp only [cmpL];split
 ·rename_i h; exact h.symm
 ·rfl
theorem zbfg (x:Atom) {d:Nat} (hx:zcU (zr d) x) (hd:d≤99) (hg:∀ a∈x.Items,g a.Ann=(true,V a.Ann)) (n:Nat) (hn:x.Items.length<n):zC2 g n 0 x=(true,bif zDf V x.Items&&srtW x.Items then .inr () else .inl false):=by
 have hl:x.Items.length≤1000000:=hx.1.2.1
 have:=zef (W:=zv5 g) (z:=.inl default) x.Items.length (fun i=>((),(i:Int),())) (fun _=>(x,())) (fun i=>(fun w:Weighted=>V w.Ann&& !(w.Ann.length==0)) (x.Items.getD i default)&&srtI x.Items i) (.inl false) (.inr ())
  (fun i hi H K D=>by
   show (zj7 g i x).ev H K D=_;unfold zj7;have hL:decide ((i:Int)<Int.ofNat x.Items.length)=true:=by simp [hi]
   simp only [Wy.ev_i,Wy.ev_k,Wy.ev_h,Wy.ev_bn,Wy.ev_d,hL,zfc,Bool.and_self,cond_true,Int.toNat_natCast,hg _ (zt hi)];rw [zR (by omega),show (Int.ofNat (x.Items.getD i default).Ann.length==(0:Int))=((x.Items.getD i default).Ann.length==0) from zxe _ 0]
   cases V (x.Items.getD i default).Ann <;>cases ((x.Items.getD i default).Ann.length==0) <;>try rfl
   simp only [cond_true,cond_false,Bool.not_true,Bool.not_false,Bool.and_self,Bool.true_and];cases i with
   | zero=>rfl
   | succ i=>
    have hi':i<x.Items.length:=by omega
    have hw:IntKind.i64.wrap (((i+1:Nat):Int) - 1)=(i:Int):=by rw [zzD (by omega) (by omega)]; rfl
    have e1:(decide ((0:Int)≤(i:Int))&&decide ((i:Int)≤((i+1:Nat):Int))&&decide (((i+1:Nat):Int)≤Int.ofNat x.Items.length))=true:=by
     simp; try omega
    have e2:(decide (((i+1:Nat):Int)≤((i+1+1:Nat):Int))&&decide (((i+1+1:Nat):Int)≤Int.ofNat x.Items.length))=true:=by
     simp; try omega
    have e3:decide (((i+1:Nat):Int)>0)=true:=by simp; try omega
    simp only [hw,e1,e2,e3,cond_true,Bool.true_and,Int.toNat_natCast,show i+1 - i=1 by omega,show i+1+1 - (i+1)=1 by omega,z58 _ _ hi,z58 _ _ hi']
    rw [zC5 (d:=d) (by simp) (fun w hw=>by
     rw [qh] at hw; subst hw; exact (hx.2.2 _ (zt hi')).2) hd,zna,zna]
    simp only [List.map,zbdy,cond_true,srtI,show i+1 - 1=i from rfl]
    have e4:decide (i+1=0)=false:=by simp
    rw [e4,Bool.false_or];generalize cmpT (zbc (x.Items.getD i default)) (zbc (x.Items.getD (i+1) default))=z;by_cases hz:z>0
    ·have:¬ z≤0:=by omega
     simp only [hz,this,decide_true,decide_false,cond_true,cond_false]
    ·have:z≤0:=by omega
     simp only [hz,this,decide_true,decide_false,cond_true,cond_false])
  (fun H K D=>by
   show (zj7 g x.Items.length x).ev H K D=_;unfold zj7;have hL:decide ((x.Items.length:Int)<Int.ofNat x.Items.length)=false:=by simp
   simp only [Wy.ev_i,Wy.ev_k,hL,cond_false]) n hn
 rw [z7a (fun i=>(fun w:Weighted=>V w.Ann&& !(w.Ann.length==0)) (x.Items.getD i default)),zAa (fun w:Weighted=>V w.Ann&& !(w.Ann.length==0))] at this
 exact this
theorem zXo {A ρ:Type} (s:A) (k:A→Wy0 ρ) (z:ρ):(Wy.bn (true,s) k).fin z=(k s).fin z:=rfl
theorem z2L (x:Atom) {d:Nat} (hx:zcU (zr d) x) (hd:d≤99) (h10:x.Items.length≤1024) (hV:∀ a,V a=true→isB a=isU a) (hgA:∀ a∈x.Args,g a=(true,V a)) (hgI:∀ a∈x.Items,g a.Ann=(true,V a.Ann)):
  zoB g x=(true,zdt V x):=by
 have hS:=fun n hn=>zbfg V g x hx hd hgI n hn
 have hA:=fun n hn=>zbge V g x hx.1.1 hgA n hn
 have hF:=z8r x.Func x.Items x.Op x.Bound hx.1.2.1;have hE:∀ a∈x.Args,∀ b,ztx a b=(true,decide (a=b)):=fun a ha b=>zTh (hx.2.1 a ha) (by omega) b
 have hC:∀ a∈x.Args,zir a=(true,hasC a):=fun a ha=>zBt a (by
  have:=hx.2.1 a ha;cases d with
  | zero=>exact this.elim
  | succ d=>have:=this.1; omega)
 have hP:=zbck x;unfold zoB zEX zdt;obtain ⟨s,hs1,hs2⟩:∃ s,zwW g (Int.toNat (0:Int)+x.Args.length+x.Items.length+(1:Nat)) 0 x=(true,s)∧s=bif zrl V x.Args then .inr x else .inl false:=⟨_,hA _ (by omega),rfl⟩
 rw [Atom.eta,hP,hs1];simp only [Wy.fin_i,Wy.fin_k,zXo];simp only [Wy.fin_i,Wy.fin_k,Wy.fin_bn,cond_true];rw [show (x.Row.Table==(0:Int)&&(x.Row.Seq==(0:Int)&&true))=rz x.Row from rfl]
 have b0:(x.Kind==(0:Int))=decide (x.Kind=0):=beqd _ _;have b1:(x.Kind==(1:Int))=decide (x.Kind=1):=beqd _ _;have b2:(x.Kind==(2:Int))=decide (x.Kind=2):=beqd _ _;have b3:(x.Kind==(3:Int))=decide (x.Kind=3):=beqd _ _;have b4:(x.Kind==(4:Int))=decide (x.Kind=4):=beqd _ _;by_cases h0:x.Kind=0
 ·rw [b0];simp only [h0,decide_true,cond_true,if_true];rw [show (Int.ofNat x.Args.length==(0:Int))=(x.Args.length==0) from zxe _ 0]
  unfold zxo
  match hl:x.Args with
  | []=>cases decide (x.Row.Table≥1) <;>cases decide (x.Row.Seq≥1) <;>cases plA x <;>rfl
  | u::l=>cases decide (x.Row.Table≥1) <;>cases decide (x.Row.Seq≥1) <;>cases plA x <;>cases zrl V (u::l) <;>rfl
 rw [b0];simp only [h0,decide_false,cond_false,if_false];cases hA:zrl V x.Args with
 | false=>rw [hs2,hA]; cases rz x.Row <;>rfl
 | true=>
 rw [hA,cond_true] at hs2;have hy:getR s=x:=by rw [hs2]; rfl
 have hy2:isL s=false:=by rw [hs2]; rfl
 rw [hy2];generalize getR s=y at hy ⊢;subst hy;cases rz y.Row with
 | false=>rfl
 | true=>
 simp only [Bool.not_true,cond_false,cond_true,isL,getR,Bool.true_and,Atom.eta,hP,hF,b1,b2,b3,b4];by_cases h1:y.Kind=1
 ·simp only [h1,decide_true,cond_true,if_true]
  match hl:y.Args with
  | []=>cases plA y <;>rfl
  | [u]=>cases plA y <;>rfl
  | [u,v]=>
   have e:=hE u (by rw [hl]; simp) v
   simp only [List.getD,qf,List.length_nil,Int.toNat_zero,List.getElem?_cons_zero,List.getElem?_cons_succ,Option.getD,show Int.toNat 1=1 from rfl,z1s]
   simp only [e];generalize decide (u=v)=E;cases plA y <;>rfl
  | u::v::w::l=>
   have e:((Int.ofNat (u::v::w::l).length)==(2:Int))=false:=by rw [beq_eq_false_iff_ne]; simp; omega
   simp only [e];cases plA y <;>rfl
 simp only [h1,decide_false,cond_false,if_false];by_cases h2:y.Kind=2
 ·simp only [h2,decide_true,cond_true,if_true]
  match hl:y.Args with
  | []=>cases plA y <;>rfl
  | [u]=>
   have e:=hC u (by rw [hl]; simp)
   have eV:V u=true:=by
    rw [hl] at hA;unfold zrl at hA;simp at hA;exact hA.1
   simp only [List.getD,qf,List.length_nil,Int.toNat_zero,List.getElem?_cons_zero,Option.getD,zGu,zNc,e,hV u eV]
   match u with
   | []=>cases plA y <;>rfl
   | [t]=>
    have e1:hasC [t]=(t.Factors.length==0):=by simp [hasC]
    have e2:isC [t]=(t.Factors.length==0):=rfl;rw [e1,e2];cases plA y <;>cases (t.Factors.length==0) <;>cases isU [t] <;>rfl
   | t::s::r=>
    simp only [len2];cases plA y <;>rfl
  | u::v::l=>
   simp only [len2];cases plA y <;>rfl
 simp only [h2,decide_false,cond_false,if_false];by_cases h3:y.Kind=3
 ·simp only [h3,decide_true,cond_true,if_true]
  match hl:y.Args with
  | []=>cases plA y <;>rfl
  | [u]=>
   have e:=hC u (by rw [hl]; simp)
   simp only [List.getD,qf,List.length_nil,Int.toNat_zero,List.getElem?_cons_zero,Option.getD,zGu];simp only [e];cases plA y <;>cases hasC u <;>rfl
  | u::v::l=>
   simp only [len2];cases plA y <;>rfl
 simp only [h3,decide_false,cond_false,if_false];by_cases h4:y.Kind=4
 ·have e10:decide (Int.ofNat y.Items.length>(1024:Int))=false:=by simp; omega
  rw [hS _ (by omega)]
  rw [e10];simp only [h4,decide_true,cond_true,if_true,cond_false];rw [show (Int.ofNat y.Args.length != (0:Int))= !(y.Args.length==0) from congrArg not (zxe y.Args.length 0),show (Int.ofNat y.Items.length==(0:Int))=(y.Items.length==0) from zxe y.Items.length 0]
  have e11:decide (0<y.Items.length)= !(y.Items.length==0):=by
   rw [beqn];by_cases h:y.Items.length=0
   ·simp [h]
   ·have:0<y.Items.length:=by omega
    simp [h,this]
  rw [e11];cases (y.Args.length==0) <;>cases (y.Items.length==0) <;>cases fitK y.Func y.Items y.Op y.Bound <;>cases zDf V y.Items <;>cases srtW y.Items <;>rfl
 simp only [h4,decide_false,cond_false,if_false]
end
section
variable (V:yC→Bool) (vat:Atom→Bool)
theorem V_9 (g:Atom→Bool×Bool) (a t10:yC) (t11 t12:Int) (t:Term) {d:Nat} (ht:zdQ (zr d) t.Factors) (hd:d≤99) (hg:∀ f∈t.Factors,g f.Atom=(true,vat f.Atom)) (n:Nat) (hn:t.Factors.length<n):
  zu7 g n a t10 t11 t12 t.Factors t.Factors.length 0 t=(true,bif okF vat t.Factors then .inr (a,t10,t11,t12) else .inl false):=by
 have hl:=ht.1
 exact zef (W:=zvc g) (z:=.inl default) t.Factors.length (fun k=>(a,(),t10,t11,t12,t.Factors,(t.Factors.length:Int),(k:Int),())) (fun _=>(t,())) (chkF vat t.Factors) (.inl false) (.inr (a,t10,t11,t12))
  (fun k hk H K D=>by
   show (zkr g a t10 t11 t12 t.Factors t.Factors.length k t).ev H K D=_;unfold zkr chkF
   have hgt:decide ((k:Int)>0)= !decide (k=0):=by
    by_cases h:k=0
    ·subst h; rfl
    ·have:0<k:=by omega
     simp [h,this]
   simp only [Atom.eta,Wy.ev_i,Wy.ev_k,Wy.ev_h,Wy.ev_bn,Wy.ev_d,tT,hk,z3c,hg _ (zt hk),hgt];rw [zR (by omega)]
   have e1:decide ((t.Factors.getD k default).Exp<1)= !decide (1≤(t.Factors.getD k default).Exp):=by
    by_cases h:1≤(t.Factors.getD k default).Exp
    ·have:¬ (t.Factors.getD k default).Exp<1:=by omega
     simp only [h,this,decide_true,decide_false,Bool.not_true]
    ·have:(t.Factors.getD k default).Exp<1:=by omega
     simp only [h,this,decide_true,decide_false,Bool.not_false]
   rw [e1];generalize decide (1≤(t.Factors.getD k default).Exp)=E1;generalize ((t.Factors.getD k default).Exp != 1)=E2;generalize ((t.Factors.getD k default).Atom.Kind==3||(t.Factors.getD k default).Atom.Kind==4)=E3;by_cases h0:k=0
   ·simp only [h0,decide_true,Bool.not_true,cond_false,Bool.true_or,Bool.and_true];cases E1 <;>cases E2 <;>cases E3 <;>cases vat (t.Factors.getD 0 default).Atom <;>rfl
   ·have hp:IntKind.i64.wrap ((k:Int) - 1)=((k - 1:Nat):Int):=zzD (by omega) (by omega)
    have hk':k - 1<t.Factors.length:=by omega
    have hfx:zcU (zr d) (t.Factors.getD (k - 1) default).Atom:=ht.2 _ (zt hk')
    have e2:∀ z:Int,decide (z≥0)= !decide (z<0):=fun z=>by
     by_cases h:z<0
     ·have:¬ z≥0:=by omega
      simp [h,this]
     ·have:z≥0:=by omega
      simp [h,this]
    simp only [h0,hp,tT,hk',zx5 hfx hd,e2,Bool.false_or];generalize decide (cmpT (zdJ (t.Factors.getD (k - 1) default).Atom) (zdJ (t.Factors.getD k default).Atom)<0)=E4;cases E1 <;>cases E2 <;>cases E3 <;>cases E4 <;>cases vat (t.Factors.getD k default).Atom <;>rfl)
  (fun H K D=>by
   show (zkr g a t10 t11 t12 t.Factors t.Factors.length t.Factors.length t).ev H K D=_;unfold zkr;simp only [Wy.ev_i,Wy.ev_k,tT,Nat.lt_irrefl]) n hn
theorem V_4 (g:Atom→Bool×Bool) (a:yC) {d:Nat} (h:zr (d+1) a) (hd:d≤99) (hg:∀ t∈a,∀ f∈t.Factors,g f.Atom=(true,vat f.Atom)) (n:Nat) (hn:a.length<n):
  zCP g n a a a.length 0=(true,bif allN (chkT vat a) a.length 0 then .inr () else .inl false):=by
 have hl:=h.1
 exact zef (W:=zvi g) (z:=.inl default) a.length (fun k=>(a,a,(a.length:Int),(k:Int),())) (fun _=>()) (chkT vat a) (.inl false) (.inr ())
  (fun k hk H K D=>by
   show (zkl g a a a.length k).ev H K D=_;unfold zkl chkT;have ht:=h.2 _ (zt hk)
   have hgt:decide ((k:Int)>0)= !decide (k=0):=by
    by_cases h:k=0
    ·subst h; rfl
    ·have:0<k:=by omega
     simp [h,this]
   simp only [Atom.eta,Wy.ev_i,Wy.ev_k,Wy.ev_h,Wy.ev_bn,Wy.ev_d,tT,hk,hgt];rw [V_9 vat g a a a.length k _ ht hd (hg _ (zt hk)) _ (by omega)]
   have e1:decide ((a.getD k default).Coeff<1)= !decide (1≤(a.getD k default).Coeff):=by
    by_cases h:1≤(a.getD k default).Coeff
    ·have:¬ (a.getD k default).Coeff<1:=by omega
     simp only [h,this,decide_true,decide_false,Bool.not_true]
    ·have:(a.getD k default).Coeff<1:=by omega
     simp only [h,this,decide_true,decide_false,Bool.not_false]
   have e3:decide ((a.getD k default).Coeff>1152921504606846976)= !decide ((a.getD k default).Coeff≤1152921504606846976):=by
    by_cases h:(a.getD k default).Coeff≤1152921504606846976
    ·have:¬ (a.getD k default).Coeff>1152921504606846976:=by omega
     simp only [h,this,decide_true,decide_false,Bool.not_true]
    ·have:(a.getD k default).Coeff>1152921504606846976:=by omega
     simp only [h,this,decide_true,decide_false,Bool.not_false]
   rw [e1,e3];generalize decide (1≤(a.getD k default).Coeff)=E1;generalize decide ((a.getD k default).Coeff≤1152921504606846976)=E2;by_cases h0:k=0
   ·subst h0;simp only [decide_true,Bool.not_true,cond_false,Bool.true_or,Bool.and_true];cases okF vat (a.getD 0 default).Factors <;>cases E1 <;>cases E2 <;>try rfl
   ·have hp:IntKind.i64.wrap ((k:Int) - 1)=((k - 1:Nat):Int):=zzD (by omega) (by omega)
    have hk':k - 1<a.length:=by omega
    have hfx:zdQ (zr d) (a.getD (k - 1) default).Factors:=h.2 _ (zt hk')
    have e2:∀ z:Int,decide (z≥0)= !decide (z<0):=fun z=>by
     by_cases h:z<0
     ·have:¬ z≥0:=by omega
      simp [h,this]
     ·have:z≥0:=by omega
      simp [h,this]
    simp only [h0,hp,tT,hk',zxX hfx hd,e2,Bool.false_or];generalize decide (cmpL (zbA (a.getD (k - 1) default).Factors) (zbA (a.getD k default).Factors)<0)=E4;cases okF vat (a.getD k default).Factors <;>cases E1 <;>cases E2 <;>cases E4 <;>try rfl
    simp only [cond_true,cond_false,Bool.not_true,isL,getR,Bool.and_self];rw [zR (by omega),decide_eq_false (show ¬ ((k - 1:Nat):Int)<0 by omega)]; rfl)
  (fun H K D=>by
   show (zkl g a a a.length a.length).ev H K D=_;unfold zkl;simp only [Wy.ev_i,Wy.ev_k,tT,Nat.lt_irrefl]) n hn
theorem zbaM (g:Atom→Bool×Bool) (a:yC) {d:Nat} (h:zr (d+1) a) (hd:d≤99) (hs:zN a≤4611686018427387904) (hg:∀ t∈a,∀ f∈t.Factors,g f.Atom=(true,vat f.Atom)):znu g a=(true,vAnn vat a):=by
 unfold znu zEs vAnn;have:=V_4 vat g a h hd hg (a.length+a.length+(Int.ofNat a.length).toNat +Int.toNat (0:Int)+(1:Nat)) (by omega)
 rw [show Int.ofNat a.length=(a.length:Int) from rfl] at *
 simp only [Wy.fin_i,Wy.fin_k,Wy.fin_bn,z4G h (by omega) hs,this,cond_true]
 cases zeQ a <;>cases allN (chkT vat a) a.length 0 <;>rfl
theorem zbgn (g:Atom→Bool×Bool) (a:yC) (i:Int) (t:Term) {d:Nat} (ht:zdQ (zr d) t.Factors) (hd:d≤99) (hg:∀ f∈t.Factors,g f.Atom=(true,vat f.Atom)) (hk:∀ x,vat x=true→0≤x.Kind∧x.Kind≤4) (n:Nat) (hn:t.Factors.length<n):
  zBl g n a i 0 t=(true,bif okF vat t.Factors then .inr (a,i) else .inl false):=by
 have hl:=ht.1
 exact zef (W:=zBj g) (z:=.inl default) t.Factors.length (fun k=>(a,i,(),(k:Int),())) (fun _=>(t,())) (chkF vat t.Factors) (.inl false) (.inr (a,i))
  (fun k hk1 H K D=>by
   show (zo5 g a i k t).ev H K D=_;unfold zo5 chkF
   have hgt:decide ((k:Int)>0)= !decide (k=0):=by
    by_cases h:k=0
    ·subst h; rfl
    ·have:0<k:=by omega
     simp [h,this]
   simp only [Atom.eta,Wy.ev_i,Wy.ev_k,Wy.ev_h,Wy.ev_bn,Wy.ev_d,tT,hk1,hg _ (zt hk1),hgt];rw [zR (by omega)]
   have hk2:=hk (t.Factors.getD k default).Atom
   have e1:decide ((t.Factors.getD k default).Exp<1)= !decide (1≤(t.Factors.getD k default).Exp):=by
    by_cases h:1≤(t.Factors.getD k default).Exp
    ·have:¬ (t.Factors.getD k default).Exp<1:=by omega
     simp only [h,this,decide_true,decide_false,Bool.not_true]
    ·have:(t.Factors.getD k default).Exp<1:=by omega
     simp only [h,this,decide_true,decide_false,Bool.not_false]
   rw [e1];by_cases hx1:1≤(t.Factors.getD k default).Exp
   rotate_left
   ·simp only [hx1,decide_false,Bool.not_false,cond_true,Bool.false_and,cond_false]
   cases hv:vat (t.Factors.getD k default).Atom with
   | false=>
    rw [Bool.and_false];cases decide (1≤(t.Factors.getD k default).Exp) <;>cases decide ((t.Factors.getD k default).Exp>1) <;>cases decide ((t.Factors.getD k default).Atom.Kind≥3) <;>rfl
   | true=>
   obtain ⟨k1,k2⟩:=hk2 hv
   have e5:((t.Factors.getD k default).Atom.Kind==3||(t.Factors.getD k default).Atom.Kind==4)=decide ((t.Factors.getD k default).Atom.Kind≥3):=by
    rw [beqd,beqd, ← Bool.decide_or];congr 1;apply propext; omega
   have e6:((t.Factors.getD k default).Exp != 1)=decide ((t.Factors.getD k default).Exp>1):=by
    rw [bne0, ← decide_not];congr 1;apply propext; omega
   rw [e5,e6];simp only [hx1,decide_true,Bool.not_true,cond_false,Bool.true_and];generalize decide ((t.Factors.getD k default).Exp>1)=E2;generalize decide ((t.Factors.getD k default).Atom.Kind≥3)=E3;by_cases h0:k=0
   ·simp only [h0,decide_true,Bool.not_true,cond_false,Bool.true_or,Bool.and_true];cases E2 <;>cases E3 <;>rfl
   ·have hp:IntKind.i64.wrap ((k:Int) - 1)=((k - 1:Nat):Int):=zzD (by omega) (by omega)
    have hk':k - 1<t.Factors.length:=by omega
    have hfx:zcU (zr d) (t.Factors.getD (k - 1) default).Atom:=ht.2 _ (zt hk')
    have e2:∀ z:Int,decide (z≥0)= !decide (z<0):=fun z=>by
     by_cases h:z<0
     ·have:¬ z≥0:=by omega
      simp [h,this]
     ·have:z≥0:=by omega
      simp [h,this]
    simp only [h0,hp,tT,hk',zwS hfx hd,e2,Bool.false_or];generalize decide (cmpT (zdJ (t.Factors.getD (k - 1) default).Atom) (zdJ (t.Factors.getD k default).Atom)<0)=E4;cases E2 <;>cases E3 <;>cases E4 <;>rfl)
  (fun H K D=>by
   show (zo5 g a i t.Factors.length t).ev H K D=_;unfold zo5;simp only [Wy.ev_i,Wy.ev_k,tT,Nat.lt_irrefl]) n hn
theorem RV_4 (g:Atom→Bool×Bool) (a:yC) {d:Nat} (h:zr (d+1) a) (hd:d≤99) (hg:∀ t∈a,∀ f∈t.Factors,g f.Atom=(true,vat f.Atom)) (hk:∀ x,vat x=true→0≤x.Kind∧x.Kind≤4) (n:Nat) (hn:a.length<n):
  zLQ g n a 0=(true,bif allN (chkT vat a) a.length 0 then .inr () else .inl false):=by
 have hl:=h.1
 exact zef (W:=zCA g) (z:=.inl default) a.length (fun k=>(a,(k:Int),())) (fun _=>()) (chkT vat a) (.inl false) (.inr ())
  (fun k hk1 H K D=>by
   show (zrh g a k).ev H K D=_;unfold zrh chkT;have ht:=h.2 _ (zt hk1)
   have hgt:decide ((k:Int)>0)= !decide (k=0):=by
    by_cases h:k=0
    ·subst h; rfl
    ·have:0<k:=by omega
     simp [h,this]
   simp only [Atom.eta,Wy.ev_i,Wy.ev_k,Wy.ev_h,Wy.ev_bn,Wy.ev_d,tT,hk1,hgt];rw [zbgn vat g a k _ ht hd (hg _ (zt hk1)) hk _ (by omega)]
   have e1:decide ((a.getD k default).Coeff<1)= !decide (1≤(a.getD k default).Coeff):=by
    by_cases h:1≤(a.getD k default).Coeff
    ·have:¬ (a.getD k default).Coeff<1:=by omega
     simp only [h,this,decide_true,decide_false,Bool.not_true]
    ·have:(a.getD k default).Coeff<1:=by omega
     simp only [h,this,decide_true,decide_false,Bool.not_false]
   have e3:decide ((a.getD k default).Coeff>1152921504606846976)= !decide ((a.getD k default).Coeff≤1152921504606846976):=by
    by_cases h:(a.getD k default).Coeff≤1152921504606846976
    ·have:¬ (a.getD k default).Coeff>1152921504606846976:=by omega
     simp only [h,this,decide_true,decide_false,Bool.not_true]
    ·have:(a.getD k default).Coeff>1152921504606846976:=by omega
     simp only [h,this,decide_true,decide_false,Bool.not_false]
   rw [e1,e3];generalize decide (1≤(a.getD k default).Coeff)=E1;generalize decide ((a.getD k default).Coeff≤1152921504606846976)=E2;by_cases h0:k=0
   ·subst h0;simp only [decide_true,Bool.not_true,cond_false,Bool.true_or,Bool.and_true];cases okF vat (a.getD 0 default).Factors <;>cases E1 <;>cases E2 <;>try rfl
   ·have hp:IntKind.i64.wrap ((k:Int) - 1)=((k - 1:Nat):Int):=zzD (by omega) (by omega)
    have hk':k - 1<a.length:=by omega
    have hfx:zdQ (zr d) (a.getD (k - 1) default).Factors:=h.2 _ (zt hk')
    have e2:∀ z:Int,decide (z≥0)= !decide (z<0):=fun z=>by
     by_cases h:z<0
     ·have:¬ z≥0:=by omega
      simp [h,this]
     ·have:z≥0:=by omega
      simp [h,this]
    simp only [h0,hp,tT,hk',zs4 hfx hd,e2,Bool.false_or];generalize decide (cmpL (zbA (a.getD (k - 1) default).Factors) (zbA (a.getD k default).Factors)<0)=E4;cases okF vat (a.getD k default).Factors <;>cases E1 <;>cases E2 <;>cases E4 <;>try rfl
    simp only [cond_true,cond_false,Bool.not_true,isL,getR,Bool.and_self];rw [zR (by omega),decide_eq_false (show ¬ ((k - 1:Nat):Int)<0 by omega)]; rfl)
  (fun H K D=>by
   show (zrh g a a.length).ev H K D=_;unfold zrh;simp only [Wy.ev_i,Wy.ev_k,tT,Nat.lt_irrefl]) n hn
theorem z8A (g:Atom→Bool×Bool) (a:yC) {d:Nat} (h:zr (d+1) a) (hd:d≤99) (hs:zN a≤4611686018427387904) (hg:zeQ a=true→∀ t∈a,∀ f∈t.Factors,g f.Atom=(true,vat f.Atom)) (hk:∀ x,vat x=true→0≤x.Kind∧x.Kind≤4):zxN g a=(true,vAnn vat a):=by
 unfold zxN zM6 vAnn;rw [Wy.fin_bn,z9Q h (by omega) hs]
 cases hw:zeQ a with
 | false=>rfl
 | true=>
  have:=RV_4 vat g a h hd (hg hw) hk ((a.length+Int.toNat (0:Int)+(1:Nat))+szTs a) (by omega)
  simp only [Wy.fin_i,Wy.fin_k,Wy.fin_bn,this,cond_true];cases allN (chkT vat a) a.length 0 <;>rfl
end
theorem zY4 {l:yA} {a:yC} (h:a∈l):zN a≤zfb l:=by
 induction l with
 | nil=>cases h
 | cons b r ih=>
  rw [zeS];rcases qd.1 h with rfl | h
  ·omega
  ·have:=ih h; omega
theorem zWj {l:yE} {w:Weighted} (h:w∈l):zN w.Ann≤zdm l:=by
 induction l with
 | nil=>cases h
 | cons b r ih=>
  rw [zh4];rcases qd.1 h with rfl | h
  ·omega
  ·have:=ih h; omega
theorem zWi {m:Nat} {a:yC} (h:zbj m a=true):isB a=isU a:=by
 cases m with
 | zero=>cases h
 | succ m=>
 match a with
 | []=>rfl
 | [t]=>
  simp only [zbj,vAnn,qc] at h;have h1:=zen.1 h.2 0 (by omega) (by simp)
  simp only [chkT,qc] at h1;have h2:=h1.2;obtain ⟨c,fs⟩:=t
  match fs with
  | []=>rfl
  | [f]=>
   have h3:=zen.1 h2 0 (by omega) (by simp)
   simp only [chkF,qc] at h3;have h4:=zAH h3.2;simp only [List.getD_cons_zero] at h4;show (c==1&&(f.Exp==1&&decide (2≤f.Atom.Kind)))=(c==1&&(f.Exp==1&&(f.Atom.Kind==2||f.Atom.Kind==3||f.Atom.Kind==4)))
   have e:decide (2≤f.Atom.Kind)=(f.Atom.Kind==2||f.Atom.Kind==3||f.Atom.Kind==4):=by
    rw [beqd,beqd,beqd, ← Bool.decide_or, ← Bool.decide_or];congr 1;apply propext; omega
   rw [e]
  | f::f'::r=>rfl
 | t::u::r=>rfl
theorem zbgl (g) (l:yA):zcC g l=IG (fun (_:Unit) x=>g x) (l.length+(Int.ofNat l.length).toNat +Int.toNat (0:Int)+(1:Nat)) () l:=rfl
theorem zbgz (g) (l:yE):zdg g l=IG (fun (_:Unit) x=>g x) (l.length+(Int.ofNat l.length).toNat +Int.toNat (0:Int)+(1:Nat)) () l:=rfl
theorem zM8:∀ n,
  (∀ d m a,zr d a→10*d≤n→d≤m→d≤100→zN a≤4611686018427387904→zkn n a=(true,zbj m a))∧
  (∀ d m x,zcU (zr d) x→10*d+9≤n→d≤m→d≤99→ze4 x≤4611686018427387904→zmW n x=(true,zdt (zbj m) x))∧
  (∀ d m a,zr d a→10*d+6≤n→d≤m→d≤99→zN a≤4611686018427387904→zfa n a=(true, !(zbj m a&& !(a.length==0))))∧
  (∀ d m (w:Weighted),zr d w.Ann→10*d+6≤n→d≤m→d≤99→zN w.Ann≤4611686018427387904→ze5 n w=(true, !(zbj m w.Ann&& !(w.Ann.length==0))))∧
  (∀ d m (l:yA),l.length≤1000000→(∀ a∈l,zr d a∧zN a≤4611686018427387904)→10*d+7≤n→d≤m→d≤99→zcB n l=(true,ixf (fun a=> !(zbj m a&& !(a.length==0))) l 0))∧
  (∀ d m (l:yA),l.length≤1000000→(∀ a∈l,zr d a∧zN a≤4611686018427387904)→10*d+8≤n→d≤m→d≤99→zcn n l=(true, !zrl (zbj m) l))∧
  (∀ d m (l:yE),l.length≤1000000→(∀ a∈l,zr d a.Ann∧zN a.Ann≤4611686018427387904)→10*d+7≤n→d≤m→d≤99→zc6 n l=(true,ixf (fun a=> !(zbj m a.Ann&& !(a.Ann.length==0))) l 0))∧
  (∀ d m (l:yE),l.length≤1000000→(∀ a∈l,zr d a.Ann∧zN a.Ann≤4611686018427387904)→10*d+8≤n→d≤m→d≤99→zcD n l=(true, !zDf (zbj m) l))
 | 0=>by
  refine ⟨?_, ?_, ?_, ?_, ?_, ?_, ?_, ?_⟩
  ·intro d m a h hd; have:d=0:=by omega
   subst this; exact h.elim
  all_goals (intros; omega)
 | n+1=>by
  obtain ⟨h1,h2,h3,h4,h5,h6,h7,h8⟩:=zM8 n;refine ⟨?_, ?_, ?_, ?_, ?_, ?_, ?_, ?_⟩
  ·intro d m a h hd hm hd2 hs;cases d with
   | zero=>exact h.elim
   | succ d=>
    cases m with
    | zero=>omega
    | succ m=>
     rw [zQU]
     exact zbaM _ _ a h (by omega) hs fun t ht f hf=>h2 d m f.Atom ((h.2 t ht).2 f hf) (by omega) (by omega) (by omega) (by
      have:=z3y ht hf; rw [zg8]; omega)
  ·intro d m x h hd hm hd2 hs;rw [zJu];rw [zg8] at hs
   exact z35 _ _ _ _ _ x h hd2 (h6 d m _ h.1.1 (fun a ha=>⟨h.2.1 a ha,by have:=zY4 ha; omega⟩) (by omega) hm hd2)
    (h8 d m _ h.1.2.1 (fun a ha=>⟨(h.2.2 a ha).2,by have:=zWj ha; omega⟩) (by omega) hm hd2)
  ·intro d m a h hd hm hd2 hs;rw [zGm];unfold zkD zwy;rw [Wy.fin_bn,h1 d m a h (by omega) hm (by omega) hs]
   simp only [cond_true,Wy.fin_i,Wy.fin_k,show (Int.ofNat a.length==(0:Int))=(a.length==0) from zxe a.length 0]
   cases zbj m a <;>simp
  ·intro d m a h hd hm hd2 hs;rw [zFE];unfold zkJ zwz;rw [Wy.fin_bn,h1 d m a.Ann h (by omega) hm (by omega) hs]
   simp only [cond_true,Wy.fin_i,Wy.fin_k,show (Int.ofNat a.Ann.length==(0:Int))=(a.Ann.length==0) from zxe a.Ann.length 0]
   cases zbj m a.Ann <;>simp
  ·intro d m l hl h hd hm hd2;rw [zm6,zbgl];exact zJV _ _ _ _ _ (by omega) (fun x hx=>h3 d m x (h x hx).1 (by omega) hm hd2 (h x hx).2) (by omega)
  ·intro d m l hl h hd hm hd2;rw [zl2];unfold zcl zfj;rw [zk4 (h5 d m l hl h (by omega) hm hd2)]
   simp [zrl,List.all_eq_not_any_not]
  ·intro d m l hl h hd hm hd2;rw [zoX,zbgz];exact zJV _ _ _ _ _ (by omega) (fun x hx=>h4 d m x (h x hx).1 (by omega) hm hd2 (h x hx).2) (by omega)
  ·intro d m l hl h hd hm hd2;rw [znf];unfold zcI zgc;rw [zk4 (h7 d m l hl h (by omega) hm hd2)]
   simp [zDf,List.all_eq_not_any_not]
theorem z8Y {a:yC} (h:zeQ a=true) {t:Term} (ht:t∈a) {f:Factor} (hf:f∈t.Factors):f.Atom.Items.length≤1024∧f.Exp≤64∧t.Factors.length≤64:=by
 simp only [zeQ,qc,List.all_eq_true] at h;have:=h.2 t ht;simp only [withF,Bool.not_eq_true',Bool.or_eq_false_iff,decide_eq_false_iff_not,List.any_eq_false] at this;have h2:=this.2 f hf;simp at h2;omega
theorem z1L:∀ n,
  (∀ d m a,zr d a→3*d≤n→d≤m→d≤100→zN a≤4611686018427387904→zx9 n a=(true,zbj m a))∧
  (∀ d m x,zcU (zr d) x→3*d+2≤n→d≤m→d≤99→ze4 x≤4611686018427387904→x.Items.length≤1024→zuZ n x=(true,zdt (zbj m) x))
 | 0=>by
  refine ⟨?_, ?_⟩
  ·intro d m a h hd; have:d=0:=by omega
   subst this; exact h.elim
  ·intros; omega
 | n+1=>by
  obtain ⟨h1,h2⟩:=z1L n;refine ⟨?_, ?_⟩
  ·intro d m a h hd hm hd2 hs;cases d with
   | zero=>exact h.elim
   | succ d=>
    cases m with
    | zero=>omega
    | succ m=>
     rw [zZJ]
     exact z8A _ _ a h (by omega) hs (fun hw t ht f hf=>h2 d m f.Atom ((h.2 t ht).2 f hf) (by omega) (by omega) (by omega) (by
      have:=z3y ht hf; rw [zg8]; omega) (z8Y hw ht hf).1) fun x hx=>zAH hx
  ·intro d m x h hd hm hd2 hs h10;rw [zSn];rw [zg8] at hs
   exact z2L _ _ x h hd2 h10 (fun a ha=>zWi ha) (fun a ha=>h1 d m a (h.2.1 a ha) (by omega) hm (by omega) (by have:=zY4 ha; omega))
    fun a ha=>h1 d m a.Ann (h.2.2 a ha).2 (by omega) hm (by omega) (by have:=zWj ha; omega)
def zG (a:yC):Bool:=zbj 100 a
theorem z40 {d:Nat} {a:yC} (h:zr d a) (hd:d≤100) (hs:zN a≤4611686018427387904):zb2 a=(true,zG a):=(zM8 1000).1 d 100 a h (by omega) hd hd hs
theorem z1c {d:Nat} {a:yC} (h:zr d a) (hd:d≤100) (hs:zN a≤4611686018427387904):zfM a=(true,zG a):=(z1L 1000).1 d 100 a h (by omega) hd hd hs
theorem zOq {τ:Type} [Inhabited τ] {l:List τ} {x:τ} (h:x∈l):∃ i,i<l.length∧l.getD i default=x:=by
 obtain ⟨i,hi,e⟩:=List.mem_iff_getElem.1 h;exact ⟨i,hi,by rw [List.getD_eq_getElem?_getD,List.getElem?_eq_getElem hi]; exact e⟩
theorem zGU {vat:Atom→Bool} {a:yC} (h:vAnn vat a=true):zeQ a=true:=by
 simp only [vAnn,qc] at h; exact h.1
theorem zwv {vat:Atom→Bool} {a:yC} (h:vAnn vat a=true) {t:Term} (ht:t∈a):(1≤t.Coeff∧t.Coeff≤1152921504606846976)∧okF vat t.Factors=true:=by
 simp only [vAnn,qc] at h;obtain ⟨i,hi,rfl⟩:=zOq ht;have:=zen.1 h.2 i (by omega) (by omega)
 simp only [chkT,qc,qe] at this;exact ⟨this.1.1,this.2⟩
theorem zpe {vat:Atom→Bool} {fs:yD} (h:okF vat fs=true) {f:Factor} (hf:f∈fs):(1≤f.Exp∧(f.Atom.Kind=3∨f.Atom.Kind=4→f.Exp=1))∧vat f.Atom=true:=by
 obtain ⟨i,hi,rfl⟩:=zOq hf;have:=zen.1 h i (by omega) (by omega)
 simp only [chkF,qc,qe] at this;refine ⟨⟨this.1.1.1,fun hk=> ?_⟩,this.2⟩
 have h2:=this.1.1.2;rcases hk with hk | hk
 ·rw [hk] at h2; simpa using h2
 ·rw [hk] at h2; simpa using h2
theorem zbeV {b:Value} (h:bz b=true):b=⟨0,0,ByteArray.mk #[]⟩:=by
 unfold bz at h;rw [zUH] at h;simp only [qc,beq_iff_eq,qe,and_true] at h;obtain ⟨k,i,t⟩:=b;simp only at h;obtain ⟨rfl,rfl,rfl⟩:=h;rfl
theorem zwt {v:Value} (h:valV v=true):v.Text.size≤255:=by
 simp only [valV,Bool.or_eq_true,qc,beq_iff_eq,qe] at h;omega
theorem zSB {x:Atom} (h:plA x=true):x.Func=0∧x.Items=[]∧x.Op=0∧x.Bound=⟨0,0,ByteArray.mk #[]⟩:=by
 simp only [plA,qc,beq_iff_eq] at h;exact ⟨h.1.1.1,List.length_eq_zero_iff.1 h.1.1.2,h.1.2,zbeV h.2⟩
theorem zbe3 {r:RowID} (h:rz r=true):r=⟨0,0⟩:=by
 simp only [rz,qc,beq_iff_eq,and_true] at h;obtain ⟨t,s⟩:=r;simp only at h;obtain ⟨rfl,rfl⟩:=h; rfl
inductive VA (V:yC→Bool):Atom→Prop
 | var (r:RowID) (h:zxo r=true):VA V ⟨0,r,[],0,[],0,⟨0,0,ByteArray.mk #[]⟩⟩
 | mon (a b:yC) (ha:V a=true) (hb:V b=true) (ha0:a≠[]) (hb0:b≠[]) (h:a≠b):VA V ⟨1,⟨0,0⟩,[a,b],0,[],0,⟨0,0,ByteArray.mk #[]⟩⟩
 | del (a:yC) (ha:V a=true) (ha0:a≠[]) (h:isC a=false) (h':isU a=false):VA V ⟨2,⟨0,0⟩,[a],0,[],0,⟨0,0,ByteArray.mk #[]⟩⟩
 | abs (a:yC) (ha:V a=true) (ha0:a≠[]) (h:hasC a=false):VA V ⟨3,⟨0,0⟩,[a],0,[],0,⟨0,0,ByteArray.mk #[]⟩⟩
 | tst (f:Int) (l:yE) (o:Int) (b:Value) (hl:l≠[]) (hi:∀ w∈l,V w.Ann=true∧w.Ann≠[]) (hs:srtW l=true) (hf:fitK f l o b=true):VA V ⟨4,⟨0,0⟩,[],f,l,o,b⟩
theorem zcL {V:yC→Bool} {x:Atom}:zdt V x=true↔VA V x:=by
 constructor
 ·intro h;have hk:=zAH h;obtain ⟨k,r,l,f,its,o,b⟩:=x;simp only at hk;unfold zdt at h;simp only [qc] at h;obtain ⟨h1,h2⟩:=h
  have ha:∀ a∈l,V a=true∧a≠[]:=fun a ha=>by
   have:=List.all_eq_true.1 h1 a ha;simp only [qc,Bool.not_eq_true',beq_eq_false_iff_ne] at this;exact ⟨this.1,fun e=>this.2 (by rw [e]; rfl)⟩
  by_cases h0:k=0
  ·subst h0;simp only [if_true,qc,beq_iff_eq] at h2;obtain ⟨e1,e2,e3,e4⟩:=zSB h2.1.1;simp only at e1 e2 e3 e4;subst e1 e2 e3 e4;obtain rfl:l=[]:=List.length_eq_zero_iff.1 h2.2;exact .var r h2.1.2
  simp only [h0,if_false,qc] at h2;obtain ⟨hr,h2⟩:=h2;have hr':=zbe3 hr;subst hr';by_cases h0':k=1
  ·subst h0';simp only [if_true,qc] at h2;obtain ⟨e1,e2,e3,e4⟩:=zSB h2.1;simp only at e1 e2 e3 e4;subst e1 e2 e3 e4
   match l,h2.2,ha with
   | [a,b],h3,ha=>exact .mon a b (ha a (by simp)).1 (ha b (by simp)).1 (ha a (by simp)).2 (ha b (by simp)).2 (by simpa [z1s] using h3)
  simp only [h0',if_false] at h2;by_cases h2':k=2
  ·subst h2';simp only [if_true,qc] at h2;obtain ⟨e1,e2,e3,e4⟩:=zSB h2.1;simp only at e1 e2 e3 e4;subst e1 e2 e3 e4
   match l,h2.2,ha with
   | [a],h3,ha=>
    simp only [zGu,qc,Bool.not_eq_true'] at h3;exact .del a (ha a (by simp)).1 (ha a (by simp)).2 h3.1 h3.2
  simp only [h2',if_false] at h2;by_cases h3':k=3
  ·subst h3';simp only [if_true,qc] at h2;obtain ⟨e1,e2,e3,e4⟩:=zSB h2.1;simp only at e1 e2 e3 e4;subst e1 e2 e3 e4
   match l,h2.2,ha with
   | [a],h3,ha=>
    simp only [zGu,Bool.not_eq_true'] at h3;exact .abs a (ha a (by simp)).1 (ha a (by simp)).2 h3
  simp only [h3',if_false] at h2;have h4':k=4:=by omega
  subst h4';simp only [if_true,qc,beq_iff_eq,qe] at h2;obtain ⟨⟨⟨⟨h3,h4⟩,h5⟩,h6⟩,h7⟩:=h2;obtain rfl:l=[]:=List.length_eq_zero_iff.1 h3
  exact .tst f its o b (fun e=>by rw [e] at h4; simp at h4) (fun w hw=>by
   have:=List.all_eq_true.1 h5 w hw;simp only [qc,Bool.not_eq_true',beq_eq_false_iff_ne] at this;exact ⟨this.1,fun e=>this.2 (by rw [e]; rfl)⟩) h6 h7
 ·intro h
  have ne:∀ a:yC,a≠[]→(a.length==0)=false:=fun a ha=>by
   rw [beq_eq_false_iff_ne]; exact fun e=>ha (List.length_eq_zero_iff.1 e)
  cases h with
  | var r h=>simp [zdt,zrl,plA,bz,h]
  | mon a b ha hb ha0 hb0 h=>simp [zdt,zrl,plA,bz,rz,z1s,ha,hb,ha0,hb0,h]
  | del a ha ha0 h h'=>simp [zdt,zrl,plA,bz,rz,zGu,ha,ha0,h,h']
  | abs a ha ha0 h=>simp [zdt,zrl,plA,bz,rz,zGu,ha,ha0,h]
  | tst f l o b hl hi hs hf=>
   have h1:zDf V l=true:=List.all_eq_true.2 fun w hw=>by rw [(hi w hw).1,ne _ (hi w hw).2]; rfl
   have h2:0<l.length:=by
    cases l with
    | nil=>exact absurd rfl hl
    | cons x r=>simp
   simp [zdt,zrl,rz,h1,hs,hf,h2]
theorem zwN {a:yC} (h:zeQ a=true):a.length≤512∧zbp a≤8∧zN a≤4096∧∀ t∈a,t.Factors.length≤64∧∀ f∈t.Factors,f.Exp≤64∧f.Atom.Items.length≤1024:=by
 simp only [zeQ,qc,List.all_eq_true,qe] at h;refine ⟨h.1.1.1,h.1.1.2,h.1.2,fun t ht=> ?_⟩
 have:=h.2 t ht;simp only [withF,Bool.not_eq_true',Bool.or_eq_false_iff,decide_eq_false_iff_not,List.any_eq_false] at this;refine ⟨by omega,fun f hf=> ?_⟩
 have h2:=this.2 f hf;simp at h2;omega
theorem z2s {a:yC} {t:Term} (h:t∈a):zdq t.Factors≤zbp a:=by
 induction a with
 | nil=>cases h
 | cons b r ih=>
  rw [zm8];rcases qd.1 h with rfl | h
  ·omega
  ·have:=ih h; omega
theorem zPW {l:yD} {f:Factor} (h:f∈l):zn3 f.Atom≤zdq l:=by
 induction l with
 | nil=>cases h
 | cons b r ih=>
  rw [zjh];rcases qd.1 h with rfl | h
  ·omega
  ·have:=ih h; omega
theorem zOF {l:yA} {a:yC} (h:a∈l):zbp a≤zmM l:=by
 induction l with
 | nil=>cases h
 | cons b r ih=>
  rw [zEp];rcases qd.1 h with rfl | h
  ·omega
  ·have:=ih h; omega
theorem z6G {l:yE} {w:Weighted} (h:w∈l):zbp w.Ann≤zld l:=by
 induction l with
 | nil=>cases h
 | cons b r ih=>
  rw [zB8];rcases qd.1 h with rfl | h
  ·omega
  ·have:=ih h; omega
theorem ztN {f:Int} {l:yE} {o:Int} {b:Value} (h:fitK f l o b=true):(0≤f∧f≤3∧5≤o∧o≤10)∧valV b=true∧∀ w∈l,valV w.Value=true∧w.Value.Kind=b.Kind:=by
 simp only [fitK,qc,List.all_eq_true,qe] at h;obtain ⟨⟨⟨⟨⟨⟨h1,h2⟩,h3⟩,h4⟩,h5⟩,h6⟩,h7⟩:=h;refine ⟨⟨h1,h2,h3,h4⟩,h5,fun w hw=> ?_⟩
 have:=h7 w hw;simp only [fitI,qc,beq_iff_eq] at this;exact this.1
theorem z2j:∀ (m:Nat) (a:yC),zbj m a=true→zr (zbp a+1) a
 | 0,a,h=>by cases h
 | m+1,a,h=>by
  have hw:=zwN (zGU h);refine ⟨by omega,fun t ht=> ?_⟩
  obtain ⟨_,hok⟩:=zwv h ht;obtain ⟨h1,h2⟩:=hw.2.2.2 t ht;refine ⟨by omega,fun f hf=> ?_⟩
  have hv:=zcL.1 (zpe hok hf).2;have hn:zn3 f.Atom≤zbp a:=Nat.le_trans (zPW hf) (z2s ht);have h3:=(h2 f hf).2;generalize f.Atom=x at hv hn h3;rw [zDD] at hn;have ih:∀ b,zbj m b=true→zbp b+1≤zbp a→zr (zbp a) b:=fun b hb hl=>(z2j m b hb).mono hl
  cases hv with
  | var r h=>exact ⟨⟨by simp,by simp,by show (ByteArray.mk #[]).size≤_; decide⟩,fun a ha=>(by cases ha),fun w hw=>(by cases hw)⟩
  | mon b c hb hc _ _ _=>
   simp only at hn;refine ⟨⟨by simp,by simp,by show (ByteArray.mk #[]).size≤_; decide⟩,fun y hy=> ?_,fun w hw=>(by cases hw)⟩
   have:=zOF hy;simp only at this;simp only [qd,List.not_mem_nil,or_false] at hy;rcases hy with rfl | rfl
   ·exact ih _ hb (by simp at hn; omega)
   ·exact ih _ hc (by simp at hn; omega)
  | del b hb _ _ _=>
   refine ⟨⟨by simp,by simp,by show (ByteArray.mk #[]).size≤_; decide⟩,fun y hy=> ?_,fun w hw=>(by cases hw)⟩
   have:=zOF hy;simp only at this;simp only [qd,List.not_mem_nil,or_false] at hy;subst hy;exact ih _ hb (by simp at hn; omega)
  | abs b hb _ _=>
   refine ⟨⟨by simp,by simp,by show (ByteArray.mk #[]).size≤_; decide⟩,fun y hy=> ?_,fun w hw=>(by cases hw)⟩
   have:=zOF hy;simp only at this;simp only [qd,List.not_mem_nil,or_false] at hy;subst hy;exact ih _ hb (by simp at hn; omega)
  | tst fn l o b hl hi hs hf=>
   obtain ⟨_,hb,hit⟩:=ztN hf;refine ⟨⟨by simp,by simp only at h3 ⊢; omega,by have:=zwt hb; simp only; omega⟩,fun y hy=>(by cases hy),fun w hw=>⟨by have:=zwt (hit w hw).1; omega, ?_⟩⟩
   have:=z6G hw;simp only at this;exact ih _ (hi w hw).1 (by simp at hn; omega)
theorem ze1 {m:Nat} {a:yC} (h:zbj m a=true):zr 9 a∧zN a≤4096∧a.length≤512:=by
 cases m with
 | zero=>cases h
 | succ m=>
 have hw:=zwN (zGU h);exact ⟨(z2j _ a h).mono (by omega),hw.2.2.1,hw.1⟩
theorem z4B {d m m':Nat} {a:yC} (h:zr d a) (hd:d≤100) (h1:d≤m) (h2:d≤m') (hs:zN a≤4611686018427387904):zbj m a=zbj m' a:=by
 have e1:=(zM8 1000).1 d m a h (by omega) h1 hd hs
 have e2:=(zM8 1000).1 d m' a h (by omega) h2 hd hs
 rw [e1] at e2;exact (Prod.mk.injEq _ _ _ _ ▸ e2).2
theorem z7U {m:Nat} {a:yC} (h:zbj m a=true) (hm:9≤m):zG a=true:=by
 obtain ⟨h1,h2,h3⟩:=ze1 h;rw [← h]; exact z4B h1 (by omega) (by omega) hm (by omega)
theorem zKX {m:Nat} {a:yC} (h:zG a=true) (hm:9≤m):zbj m a=true:=by
 obtain ⟨h1,h2,h3⟩:=ze1 h;rw [← h]; exact z4B h1 (by omega) hm (by omega) (by omega)
theorem VA.imp {V V':yC→Bool} (hV:∀ a,V a=true→V' a=true) {x:Atom} (h:VA V x):VA V' x:=by
 cases h with
 | var r h=>exact .var r h
 | mon a b ha hb ha0 hb0 h=>exact .mon a b (hV a ha) (hV b hb) ha0 hb0 h
 | del a ha ha0 h h'=>exact .del a (hV a ha) ha0 h h'
 | abs a ha ha0 h=>exact .abs a (hV a ha) ha0 h
 | tst f l o b hl hi hs hf=>exact .tst f l o b hl (fun w hw=>⟨hV _ (hi w hw).1,(hi w hw).2⟩) hs hf
def vatA (x:Atom):Bool:=zdt zG x
theorem zbce {m:Nat} (hm:9≤m):zdt (zbj m)=vatA:=by
 funext x
 rw [Bool.eq_iff_iff];unfold vatA;rw [zcL,zcL];exact ⟨VA.imp fun a h=>z7U h hm,VA.imp fun a h=>zKX h hm⟩
theorem z19 (a:yC):zG a=vAnn vatA a:=by
 show vAnn (zdt (zbj 99)) a=_;rw [zbce (by omega)]
theorem z0k {τ:Type} [Inhabited τ] {l:List τ} {i:Nat} (h:i<l.length):l.set i (l.getD i default)=l:=by
 rw [List.getD_eq_getElem?_getD,List.getElem?_eq_getElem h]; simp
section
variable (g:yC→Bool×yC) (gx:Atom→Bool×Atom)
theorem cp_7 (t8:yC) (t9 t10:Int) (out:yC) (t:Term) (l:yD) (hl:l.length≤1000000) (hg:∀ f∈l,gx f.Atom=(true,f.Atom)) (n:Nat) (hn:l.length<n):
  zBC gx n t8 t9 t10 l.length 0 out t l=(true,(t8,t9,t10,out,t,l)):=by
 have:=zef (W:=zuF gx) (z:=default) l.length (fun i=>((),(),(),t8,t9,t10,(l.length:Int),(i:Int),())) (fun _=>(out,t,l,())) (fun _=>true) default (t8,t9,t10,out,t,l)
  (fun i hi H K D=>by
   show (zjQ gx t8 t9 t10 l.length i out t l).ev H K D=_;unfold zjQ;simp only [Atom.eta,Wy.ev_i,Wy.ev_k,Wy.ev_h,Wy.ev_bn,Wy.ev_d,tT,hi,hg _ (zt hi)];rw [zR (by omega)]
   have:(l.set i (⟨(l.getD i default).Atom,(l.getD i default).Exp⟩:Factor))=l:=z0k hi;rw [this])
  (fun H K D=>by
   show (zjQ gx t8 t9 t10 l.length l.length out t l).ev H K D=_;unfold zjQ;simp only [Wy.ev_i,Wy.ev_k,tT,Nat.lt_irrefl]) n hn
 rw [show allN (fun _=>true) l.length 0=true from zen.2 fun _ _ _=>rfl] at this
 exact this
theorem cp_3 (a:yC) (hl:a.length≤1000000) (hg:∀ t∈a,t.Factors.length≤1000000∧∀ f∈t.Factors,gx f.Atom=(true,f.Atom)) (n:Nat) (hn:a.length<n):
  zBR gx n a a.length 0 []=(true,a):=by
 have hreach:reach=70368744177664:=rfl
 have:=zef (W:=zuB gx) (z:=default) a.length (fun i=>((),a,(a.length:Int),(i:Int),())) (fun i=>(a.take i,())) (fun _=>true) default a
  (fun i hi H K D=>by
   show (zjG gx a a.length i (a.take i)).ev H K D=_;unfold zjG ze8;obtain ⟨h1,h2⟩:=hg _ (zt hi);have hb:decide ((a.getD i default).Factors.length*128≤reach)=true:=by simp only [qe]; omega
   simp only [Wy.ev_i,Wy.ev_k,Wy.ev_h,Wy.ev_bn,Wy.ev_d,tT,hi,hb];rw [cp_7 gx a a.length i (a.take i) _ _ h1 h2 _ (by omega)]
   have hb2:decide (((a.take i).length+1)*32≤reach)=true:=by simp only [qe,List.length_take]; omega
   simp only [cond_true,List.length_singleton,hb2];rw [zR (by omega),zkA hi])
  (fun H K D=>by
   show (zjG gx a a.length a.length (a.take a.length)).ev H K D=_;unfold zjG;simp only [Wy.ev_i,Wy.ev_k,tT,Nat.lt_irrefl,List.take_length]) n hn
 rw [show allN (fun _=>true) a.length 0=true from zen.2 fun _ _ _=>rfl] at this
 exact this
end
section
variable (g:yC→Bool×yC)
theorem zbgw (l:yA) (hl:l.length≤1000000) (hg:∀ a∈l,g a=(true,a)) (n:Nat) (hn:l.length<n) (x0 x1 x2 x3:Int) (x4:yE) (x5 x6 x7:Int) (x8:ByteArray) (t0 t1 t2 t3 t4 t5 t6:Int) (t7:ByteArray):
  zxK g n l.length 0 x0 x1 x2 x3 x4 x5 x6 x7 x8 t0 t1 t2 t3 t4 t5 t6 t7 l=(true,(x0,x1,x2,x3,x4,x5,x6,x7,x8,t0,t1,t2,t3,t4,t5,t6,t7,l)):=by
 have:=zef (W:=zof g) (z:=default) l.length (fun i=>((),(),(l.length:Int),(i:Int),())) (fun _=>((x0,x1,x2,(),x3,x4,x5,x6,x7,x8,()),(t0,t1,t2,(),t3,(),t4,t5,t6,t7,()),l,())) (fun _=>true) default (x0,x1,x2,x3,x4,x5,x6,x7,x8,t0,t1,t2,t3,t4,t5,t6,t7,l)
  (fun i hi H K D=>by
   show (zgi g l.length i x0 x1 x2 x3 x4 x5 x6 x7 x8 t0 t1 t2 t3 t4 t5 t6 t7 l).ev H K D=_;unfold zgi;simp only [Wy.ev_i,Wy.ev_k,Wy.ev_h,Wy.ev_bn,Wy.ev_d,tT,hi,hg _ (zt hi)];rw [zR (by omega),z0k hi])
  (fun H K D=>by
   show (zgi g l.length l.length x0 x1 x2 x3 x4 x5 x6 x7 x8 t0 t1 t2 t3 t4 t5 t6 t7 l).ev H K D=_;unfold zgi;simp only [Wy.ev_i,Wy.ev_k,tT,Nat.lt_irrefl]) n hn
 rw [show allN (fun _=>true) l.length 0=true from zen.2 fun _ _ _=>rfl] at this
 exact this
theorem zbgi (l:yE) (hl:l.length≤1000000) (hg:∀ a∈l,g a.Ann=(true,a.Ann)) (n:Nat) (hn:l.length<n) (x0 x1 x2 x3 x4 x5 x6:Int) (x7:ByteArray) (t0 t1 t2 t3 t4 t5 t6:Int) (t7:ByteArray) (b2:yA):
  zxG g n l.length 0 x0 x1 x2 x3 x4 x5 x6 x7 t0 t1 t2 t3 t4 t5 t6 t7 b2 l=(true,(x0,x1,x2,x3,x4,x5,x6,x7,t0,t1,t2,t3,t4,t5,t6,t7,b2,l)):=by
 have:=zef (W:=zoy g) (z:=default) l.length (fun i=>((),(),(l.length:Int),(i:Int),())) (fun _=>((x0,x1,x2,(),x3,(),x4,x5,x6,x7,()),(t0,t1,t2,(),t3,(),t4,t5,t6,t7,()),b2,l,())) (fun _=>true) default (x0,x1,x2,x3,x4,x5,x6,x7,t0,t1,t2,t3,t4,t5,t6,t7,b2,l)
  (fun i hi H K D=>by
   show (zge g l.length i x0 x1 x2 x3 x4 x5 x6 x7 t0 t1 t2 t3 t4 t5 t6 t7 b2 l).ev H K D=_;unfold zge;simp only [Wy.ev_i,Wy.ev_k,Wy.ev_h,Wy.ev_bn,Wy.ev_d,tT,hi,hg _ (zt hi)];have:l.set i (⟨(l.getD i default).Value,(l.getD i default).Ann⟩:Weighted)=l:=z0k hi;rw [zR (by omega),this])
  (fun H K D=>by
   show (zge g l.length l.length x0 x1 x2 x3 x4 x5 x6 x7 t0 t1 t2 t3 t4 t5 t6 t7 b2 l).ev H K D=_;unfold zge;simp only [Wy.ev_i,Wy.ev_k,tT,Nat.lt_irrefl]) n hn
 rw [show allN (fun _=>true) l.length 0=true from zen.2 fun _ _ _=>rfl] at this
 exact this
theorem z1d (x:Atom) (h1:x.Args.length≤1000000) (h2:x.Items.length≤1000000) (hg:∀ a∈x.Args,g a=(true,a)) (hgi:∀ w∈x.Items,g w.Ann=(true,w.Ann)):ziJ g x=(true,x):=by
 have hreach:reach=70368744177664:=rfl;unfold ziJ zyX zdZ zey
 have e1:∀ k:Nat,k≤1000→decide (x.Args.length*k≤reach)=true:=fun k hk=>by
  have:=Nat.mul_le_mul h1 hk;simp only [qe]; omega
 have e2:∀ k:Nat,k≤1000→decide (x.Items.length*k≤reach)=true:=fun k hk=>by
  have:=Nat.mul_le_mul h2 hk;simp only [qe]; omega
 simp only [Wy.fin_bn,Wy.fin_k,e1 _ (by omega:24≤1000),e2 _ (by omega:56≤1000),Int.ofNat_eq_natCast,cond_true]
 rw [zbgw g _ h1 hg _ (by omega)]
 simp only [cond_true,e2 _ (by omega:56≤1000)]
 rw [zbgi g _ h2 hgi _ (by omega)]
 simp only [cond_true];cases x; rfl
theorem z8w (gx:Atom→Bool×Atom) (a:yC) (hl:a.length≤1000000) (hg:∀ t∈a,t.Factors.length≤1000000∧∀ f∈t.Factors,gx f.Atom=(true,f.Atom)):zmw gx a=(true,a):=by
 unfold zmw zDc;have:=cp_3 gx a hl hg (a.length+(Int.ofNat a.length).toNat +Int.toNat (0:Int)+(0:Nat)+(1:Nat)) (by omega)
 rw [show Int.ofNat a.length=(a.length:Int) from rfl] at *
 rw [Wy.fin_bn,this]; rfl
end
theorem z0Z:∀ n,
  (∀ d a,zr d a→2*d≤n→zmD n a=(true,a))∧
  (∀ d x,zcU (zr d) x→2*d+1≤n→zmh n x=(true,x))
 | 0=>by
  refine ⟨fun d a h hd=> ?_,fun d x h hd=>by omega⟩
  have:d=0:=by omega
  subst this; exact h.elim
 | n+1=>by
  obtain ⟨h1,h2⟩:=z0Z n;refine ⟨fun d a h hd=> ?_,fun d x h hd=> ?_⟩
  ·cases d with
   | zero=>exact h.elim
   | succ d=>
    rw [zOI];exact z8w _ a h.1 fun t ht=>⟨(h.2 t ht).1,fun f hf=>h2 d _ ((h.2 t ht).2 f hf) (by omega)⟩
  ·rw [zHS];exact z1d _ x h.1.1 h.1.2.1 (fun a ha=>h1 d a (h.2.1 a ha) (by omega)) fun w hw=>h1 d _ (h.2.2 w hw).2 (by omega)
theorem zGz {d:Nat} {a:yC} (h:zr d a) (hd:d≤100):zgE a=(true,a):=(z0Z 1000).1 d a h (by omega)
def fitR (a:yC):yC×Int:=bif zeQ a then (a,0) else ([],6)
theorem zAO {d:Nat} {a:yC} (h:zr d a) (hd:d≤100) (hs:zN a≤4611686018427387904):zer a=(true,fitR a):=by
 unfold zer zEx fitR;simp only [Wy.fin_bn,Wy.fin_i,Wy.fin_k,z4G h hd hs,zGz h hd,cond_true];cases zeQ a <;>rfl
theorem zQA {d:Nat} {a:yC} (h:zr d a) (hd:d≤100) (hs:zN a≤4611686018427387904):znJ a=(true,fitR a):=by
 unfold znJ zZt fitR;simp only [Wy.fin_bn,Wy.fin_i,Wy.fin_k,z9Q h hd hs,cond_true];cases zeQ a <;>rfl
def oneA (x:Atom):yC:=[⟨1,[⟨x,1⟩]⟩]
theorem zGy (x:Atom):(zfm x).2=oneA x:=by
 unfold zfm zFi;rw [Atom.eta]; rfl
theorem zQw (x:Atom):(zm1 x).2=oneA x:=by
 unfold zm1 zU7;rw [Atom.eta]; rfl
theorem zM5 {d:Nat} {x:Atom} (h:zcU (zr d) x):zr (d+1) (oneA x):=by
 refine ⟨by simp [oneA],fun t ht=> ?_⟩
 simp only [oneA,qh] at ht;subst ht;refine ⟨by simp,fun f hf=> ?_⟩
 simp only [qh] at hf;subst hf; exact h
theorem z0R (x:Atom):zN (oneA x)=2+ze4 x:=by
 rw [oneA,zet,ztB,zdb,ziv];simp only [List.length_singleton]; omega
theorem z7t (x:Atom):(zgw x).2=oneA x:=by
 unfold zgw zzY;rw [Atom.eta]; rfl
theorem zbdj {x y:Atom} (h:oneA x=oneA y):x=y:=by
 simp only [oneA,qj,and_true] at h;have:=congrArg TermOf.Factors h;simp only [qj,and_true] at this;exact congrArg FactorOf.Atom this
theorem z8M {d:Nat} {x:Atom} (hx:zcU (zr d) x) (hd:d≤99) (y:Atom):zmB x y=(true,decide (x=y)):=by
 unfold zmB zCH;rw [Atom.eta,Atom.eta,z7t,z7t,Wy.fin_bn,zrI (zM5 hx) (by omega),cond_true,Wy.fin_k]
 have:decide (oneA x=oneA y)=decide (x=y):=by
  rw [decide_eq_decide];exact ⟨zbdj,fun h=>by rw [h]⟩
 rw [this]
theorem zbgh {d:Nat} (s:yD) (f:Factor) (hs:s.length≤1000000) (hf:zcU (zr d) f.Atom) (hd:d≤99):zcq s f=(true,s.any fun g=>decide (f.Exp≤g.Exp)&&decide (f.Atom=g.Atom)):=by
 unfold zcq zik
 have hw:zdx=zQ9 (fun (g:Factor×Unit) x=>zeA x g.1):=by
  funext x y
  unfold zdx zjc zQ9 zXj;rw [Factor.eta2,Factor.eta2]
 have:zcK s f=IG (fun (g:Factor×Unit) x=>zeA x g.1) (s.length+f.Atom.Args.length+f.Atom.Items.length+(Int.ofNat s.length).toNat +Int.toNat (0:Int)+(1000:Nat)) (f,()) s:=by
  unfold zcK zjL zjm;rw [hw,Factor.eta2]; rfl
 rw [Factor.eta2]
 exact zk4 (this.trans (zJV _ _ _ _ _ (by omega) (fun x _=>by
  show zeA x f=_;unfold zeA zx3;rw [Atom.eta,Atom.eta];simp only [Wy.fin_i,Wy.fin_bn,Wy.fin_k,z8M hf hd,cond_true];cases decide (f.Exp≤x.Exp) <;>rfl) (by omega)))
theorem z1D {d:Nat} {s:Term} (hs:zdQ (zr d) s.Factors) (hd:d≤99) {t:Term} (ht:t.Factors.length≤1000000):zfY s t=(true,dvF s.Factors t.Factors):=by
 unfold zfY zDM
 have h3:zcv s.Factors t=(true,s.Factors.any fun f=> !t.Factors.any fun g=>decide (f.Exp≤g.Exp)&&decide (f.Atom=g.Atom)):=by
  unfold zcv ziW
  have hw:zdP=zQ9 (fun (g:Term×Unit) x=>zfF x g.1):=by
   funext x y
   unfold zdP zjS zQ9 zXj;rw [Factor.eta2]
  have:zcY s.Factors t=IG (fun (g:Term×Unit) x=>zfF x g.1) (s.Factors.length+t.Factors.length+(Int.ofNat s.Factors.length).toNat +Int.toNat (0:Int)+(1000:Nat)) (t,()) s.Factors:=by
   unfold zcY zjY zjO;rw [hw]; rfl
  exact zk4 (this.trans (zJV _ _ _ _ _ (by have:=hs.1; omega) (fun x hx=>by
   show zfF x t=_;unfold zfF zA3;rw [Factor.eta2,Wy.fin_bn,zbgh _ _ ht (hs.2 x hx) hd,cond_true,Wy.fin_k]) (by omega)))
 rw [Wy.fin_bn,h3,cond_true,Wy.fin_k];unfold dvF;simp [List.all_eq_not_any_not]
def txV (v:Value):List UInt8:=if v.Kind=0 then ziu v.Int else if v.Kind=1 then 39::(v.Text.data.toList.flatMap esc++[39]) else if v.Int=1 then [84,82,85,69] else [70,65,76,83,69]
def txR (r:RowID):List UInt8:=116::(ziu r.Table++46::ziu r.Seq)
def fnT (f:Int):List UInt8:=if f=0 then [67,79,85,78,84] else if f=1 then [83,85,77] else if f=2 then [77,73,78] else [77,65,88]
def opT (o:Int):List UInt8:=if o=5 then [61] else if o=6 then [60,62] else if o=7 then [60] else if o=8 then [60,61] else if o=9 then [62] else [62,61]
def zRL (ts:List (List UInt8)):List UInt8:=if ts=[] then [48] else zeL ts [32,43,32]
def zUx (c:Int) (fs:List (List UInt8)):List UInt8:=if fs=[] then ziu c else if c=1 then zeL fs [42] else ziu c++42::zeL fs [42]
def zNx (x:List UInt8) (e:Int):List UInt8:=if e=1 then x else x++94::ziu e
def zdw (k:Int) (r:RowID) (xs:List (List UInt8)) (f:Int) (is:List (List UInt8)) (o:Int) (b:Value):List UInt8:=
 if k=0 then txR r
 else if k=1 then [109,111,110,117,115,91]++(xs.getD 0 []++([44,32]++(xs.getD 1 []++[93])))
 else if k=2 then [100,101,108,116,97,91]++(xs.getD 0 []++[93])
 else if k=3 then [97,98,115,101,110,116,91]++(xs.getD 0 []++[93])
 else [116,101,115,116,91]++(fnT f++([123]++(zeL is [59,32]++([125,32]++(opT o++([32]++(txV b++[93])))))))
mutual
def txA:Atom→List UInt8
 | ⟨k,r,a,f,i,o,b⟩=>zdw k r (txAs a) f (txIs i) o b
def txFs:yD→List (List UInt8)
 | []=>[]
 | ⟨x,e⟩::l=>zNx (txA x) e::txFs l
def txTs:yC→List (List UInt8)
 | []=>[]
 | ⟨c,fs⟩::l=>zUx c (txFs fs)::txTs l
def txAs:yA→List (List UInt8)
 | []=>[]
 | a::l=>zRL (txTs a)::txAs l
def txIs:yE→List (List UInt8)
 | []=>[]
 | ⟨v,a⟩::l=>(txV v++([58,32]++zRL (txTs a)))::txIs l
end
def txF (f:Factor):List UInt8:=zNx (txA f.Atom) f.Exp
def txT (t:Term):List UInt8:=zUx t.Coeff (txFs t.Factors)
def txN (a:yC):List UInt8:=zRL (txTs a)
def txI (w:Weighted):List UInt8:=txV w.Value++([58,32]++txN w.Ann)
theorem zAh:∀ l,txFs l=l.map txF
 | []=>by rw [txFs]; rfl
 | x::r=>by rw [txFs,zAh r]; rfl
theorem zRs:∀ l,txTs l=l.map txT
 | []=>by rw [txTs]; rfl
 | x::r=>by rw [txTs,zRs r]; rfl
theorem zmF:∀ l,txAs l=l.map txN
 | []=>by rw [txAs]; rfl
 | x::r=>by rw [txAs,zmF r]; rfl
theorem zK8:∀ l,txIs l=l.map txI
 | []=>by rw [txIs]; rfl
 | x::r=>by rw [txIs,zK8 r]; rfl
theorem zbfc (x:Atom):txA x=zdw x.Kind x.Row (txAs x.Args) x.Func (txIs x.Items) x.Op x.Bound:=by cases x; rw [txA]
def txL (l:yD):List UInt8:=zeL (txFs l) [42]
theorem zQQ {v:Value} (h:valV v=true):(txV v).length≤512:=by
 have ht:=zwt h;unfold txV;have h1:=zpY v.Int;have h2:=z32 v.Text.data.toList;have h3:v.Text.data.toList.length=v.Text.size:=by rw [Array.length_toList]; rfl
 split
 ·omega
 ·split
  ·simp only [qf,qg,List.length_nil]; omega
  ·split <;>simp
theorem zbe1 (r:RowID):(txR r).length≤44:=by
 have h1:=zpY r.Table;have h2:=zpY r.Seq;simp only [txR,qf,qg]; omega
theorem z9x (f:Int):(fnT f).length≤5:=by unfold fnT; (repeat' split) <;>simp
theorem z9o (f:Int):(opT f).length≤2:=by unfold opT; (repeat' split) <;>simp
theorem zSp {α:Type} (t:α→List UInt8) (m:α→Nat) (s:List UInt8):∀ l:List α,(∀ x∈l,(t x).length+s.length≤m x)→(zeL (l.map t) s).length≤(l.map m).sum
 | [],_=>by simp [zeL]
 | [x],h=>by
  have:=h x (by simp)
  simp only [List.map,zeL,List.sum_cons,List.sum_nil]; omega
 | x::y::r,h=>by
  have h1:=h x (by simp)
  have h2:=zSp t m s (y::r) fun z hz=>h z (List.mem_cons_of_mem _ hz)
  simp only [List.map,zeL,qg,List.sum_cons] at h2 ⊢;omega
theorem zYW:∀ l:yD,(l.map fun f=>1000+1000*ze4 f.Atom).sum=1000*(l.length+zbI l)
 | []=>by rw [ziv]; rfl
 | f::r=>by rw [List.map_cons,List.sum_cons,zYW r,zdb,qf]; omega
theorem z49:∀ l:yC,(l.map fun t=>1000+1000*(t.Factors.length+zbI t.Factors)).sum=1000*zN l
 | []=>by rw [ztB]; rfl
 | f::r=>by rw [List.map_cons,List.sum_cons,z49 r,zet]; omega
theorem z48:∀ l:yE,(l.map fun t=>1000+1000*zN t.Ann).sum=1000*zdm l
 | []=>by rw [zfx]; rfl
 | f::r=>by rw [List.map_cons,List.sum_cons,z48 r,zh4]; omega
theorem zbd4 {x:Atom} {e:Int} (h:(txA x).length≤700+1000*ze4 x):(zNx (txA x) e).length+1≤1000+1000*ze4 x:=by
 have:=zpY e;unfold zNx;split
 ·omega
 ·simp only [qg,qf]; omega
theorem z8a {l:yD} (h:∀ f∈l,(txA f.Atom).length≤700+1000*ze4 f.Atom):(txL l).length≤1000*(l.length+zbI l):=by
 unfold txL;rw [zAh, ← zYW];exact zSp txF (fun f=>1000+1000*ze4 f.Atom) [42] l fun f hf=>zbd4 (h f hf)
theorem zXq:∀ (m:Nat),(∀ a,zbj m a=true→(txN a).length≤1+1000*zN a)∧(∀ x,zdt (zbj m) x=true→(txA x).length≤700+1000*ze4 x)
 | m=>by
  have hA:∀ (V:yC→Bool),(∀ a,V a=true→(txN a).length≤1+1000*zN a)→∀ x,zdt V x=true→(txA x).length≤700+1000*ze4 x:=by
   intro V hV x hx;rw [zg8];cases zcL.1 hx with
   | var r h=>
    rw [txA]; have:=zbe1 r;simp only [zdw,if_true]; omega
   | mon a b ha hb _ _ _=>
    have h1:=hV a ha; have h2:=hV b hb;rw [txA,zmF];simp only [zdw,zeS,zgx,zfx,List.map,List.getD_cons_zero,List.getD_cons_succ,qg,qf,List.length_nil];simp only [show ¬ (1:Int)=0 by decide,if_false,if_true,qg,qf,List.length_nil]
    omega
   | del a ha _ _ _=>
    have h1:=hV a ha;rw [txA,zmF];simp only [zdw,zeS,zgx,zfx,List.map,List.getD_cons_zero];simp only [show ¬ (2:Int)=0 by decide,show ¬ (2:Int)=1 by decide,if_false,if_true,qg,qf,List.length_nil]
    omega
   | abs a ha _ _=>
    have h1:=hV a ha;rw [txA,zmF];simp only [zdw,zeS,zgx,zfx,List.map,List.getD_cons_zero];simp only [show ¬ (3:Int)=0 by decide,show ¬ (3:Int)=1 by decide,show ¬ (3:Int)=2 by decide,if_false,if_true,qg,qf,List.length_nil]
    omega
   | tst f l o b hl hi hs hf=>
    obtain ⟨_,hb,hit⟩:=ztN hf;have h1:=z9x f; have h2:=z9o o; have h3:=zQQ hb
    have h4:(zeL (l.map txI) [59,32]).length≤1000*zdm l:=by
     rw [← z48];refine zSp txI (fun w=>1000+1000*zN w.Ann) [59,32] l fun w hw=> ?_
     have h5:=hV _ (hi w hw).1; have h6:=zQQ (hit w hw).1;simp only [txI,qg,qf,List.length_nil]; omega
    rw [txA,zK8];simp only [zdw,zgx];simp only [show ¬ (4:Int)=0 by decide,show ¬ (4:Int)=1 by decide,show ¬ (4:Int)=2 by decide,show ¬ (4:Int)=3 by decide,if_false,qg,qf,List.length_nil]
    omega
  have hN:∀ a,zbj m a=true→(txN a).length≤1+1000*zN a:=by
   induction m with
   | zero=>intro a h; cases h
   | succ m ih=>
    intro a h;unfold txN zRL;split
    ·simp
    ·rw [zRs, ← z49];refine Nat.le_trans (zSp txT (fun t=>1000+1000*(t.Factors.length+zbI t.Factors)) [32,43,32] a fun t ht=> ?_) (Nat.le_add_left _ _)
     have hok:=(zwv h ht).2;have h5:=z8a (l:=t.Factors) fun f hf=>hA _ ih _ (zpe hok hf).2
     have h6:=zpY t.Coeff;have e:(zeL (txFs t.Factors) [42]).length=(txL t.Factors).length:=rfl;unfold txT zUx;simp only [qf,List.length_nil];split
     ·omega
     ·split
      ·omega
      ·simp only [qg,qf]; omega
  exact ⟨hN,hA _ hN⟩
theorem zmK {n:Int} (h:wf3 n): -9223372036854775808≤n∧n≤9223372036854775807:=by
 have h:(Lit.int .i64 n).wf=true:=h;have:IntKind.i64.min≤n∧n≤IntKind.i64.max:=by simpa [Lit.wf] using h
 exact ⟨this.1,this.2⟩
def rng (n:Int):Prop:= -9223372036854775808≤n∧n≤9223372036854775807
instance (n:Int):Decidable (rng n):=by unfold rng; infer_instance
theorem zZz {n:Int} (h:rng n):strconv_Itoa n=(true,bs (ziu n)):=by
 unfold strconv_Itoa zSu zNn;rw [decide_eq_true h.1,decide_eq_true h.2]; rfl
theorem z9k {n:Int} (h:rng n):zi8 n 10=(true,bs (ziu n)):=by
 unfold zi8 zw1 zNn;rw [decide_eq_true h.1,decide_eq_true h.2]; rfl
theorem okS (n m:Nat) (h:n+m≤9223372036854775807):decide (n+m≤9223372036854775807)=true:=decide_eq_true h
theorem zbcT {r:RowID} (h:zxo r=true) (h1:rng r.Table) (h2:rng r.Seq):zxx r=(true,bs (txR r)):=by
 unfold zxx zNE txR;have l1:=zpY r.Table;have l2:=zpY r.Seq;rw [show ByteArray.mk #[(116:UInt8)]=bs [116] from rfl,show ByteArray.mk #[(46:UInt8)]=bs [46] from rfl]
 simp only [Wy.fin_bn,Wy.fin_i,Wy.fin_k,zD3,h,zZz h1,zZz h2,cond_true,cond_false,Bool.not_true,zDA,zvB,qg,qf,List.length_nil];rw [okS _ _ (by omega),okS _ _ (by omega),okS _ _ (by omega)]
 simp
theorem z7v {v:Value} (h:valV v=true) (hr:rng v.Int):zvg v=(true,bs (txV v)):=by
 unfold zvg zPo txV strings_ReplaceAll;have ht:=zwt h;rw [show ByteArray.mk #[(39:UInt8)]=bs [39] from rfl,show ByteArray.mk #[(39:UInt8),(39:UInt8)]=bs [39,39] from rfl]
 simp only [Wy.fin_bn,Wy.fin_i,Wy.fin_k,zGl,h,z9k hr,z3a _ ht,cond_true,cond_false,Bool.not_true,zDA,zvB,qg,qf,List.length_nil];have h2:=z32 v.Text.data.toList;have h3:v.Text.data.toList.length=v.Text.size:=by rw [Array.length_toList]; rfl
 rw [okS _ _ (by omega),okS _ _ (by omega)]
 by_cases k0:v.Kind=0
 ·simp [k0]
 by_cases k1:v.Kind=1
 ·simp [k1]
 simp only [beqd,k0,k1,decide_false,cond_false,if_false];by_cases i1:v.Int=1
 ·simp only [i1,decide_true,cond_true,if_true]; rfl
 ·simp only [i1,decide_false,cond_false,if_false]; rfl
theorem zbdX {f:Int} (h0:0≤f) (h3:f≤3):(decide ((0:Int)≤f)&&decide (f<Int.ofNat zb5.snd.length))=true∧zb5.snd.getD f.toNat default=bs (fnT f):=by
 have hc:f=0∨f=1∨f=2∨f=3:=by omega
 rcases hc with rfl | rfl | rfl | rfl <;>exact ⟨rfl,rfl⟩
theorem zbe6 {o:Int} (h0:5≤o) (h3:o≤10):(decide ((0:Int)≤IntKind.i64.wrap (o - 5))&&decide (IntKind.i64.wrap (o - 5)<Int.ofNat zdM.snd.length))=true∧zdM.snd.getD (IntKind.i64.wrap (o - 5)).toNat default=bs (opT o):=by
 have hc:o=5∨o=6∨o=7∨o=8∨o=9∨o=10:=by omega
 rcases hc with rfl | rfl | rfl | rfl | rfl | rfl <;>exact ⟨rfl,rfl⟩
theorem zZi {m:Nat} {x:Atom} (h:zdt (zbj m) x=true) (hi:x.Items.length≤1024):ze4 x≤4195328:=by
 rw [zg8];cases zcL.1 h with
 | var r h=>rw [zgx,zfx]; omega
 | mon a b ha hb _ _ _=>
  have h1:=(ze1 ha).2.1; have h2:=(ze1 hb).2.1;simp only [zeS,zgx,zfx]; omega
 | del a ha _ _ _=>
  have h1:=(ze1 ha).2.1;simp only [zeS,zgx,zfx]; omega
 | abs a ha _ _=>
  have h1:=(ze1 ha).2.1;simp only [zeS,zgx,zfx]; omega
 | tst f l o b hl hv hs hf=>
  have h1:∀ l:yE,(∀ w∈l,zN w.Ann≤4096)→zdm l≤l.length*4097:=fun l=>by
   induction l with
   | nil=>intro _; rw [zfx]; omega
   | cons w r ih=>
    intro h;have:=h w (by simp)
    have:=ih fun w hw=>h w (by simp [hw])
    rw [zh4,qf,Nat.add_mul]; omega
  have:=h1 l fun w hw=>(ze1 (hv w hw).1).2.1
  have:=Nat.mul_le_mul hi (Nat.le_refl 4097);simp only [zgx] at this ⊢; omega
section
variable (gA:Atom→Bool×ByteArray) (gF:yD→Bool×ByteArray) (gT:yC→Bool×ByteArray)
theorem zbgb (l:yD) (hl:l.length≤1000) (hg:∀ f∈l,gA f.Atom=(true,bs (txA f.Atom))∧(txA f.Atom).length≤4200000000∧rng f.Exp):zgo gA l=(true,bs (txL l)):=by
 have hreach:reach=70368744177664:=rfl;unfold zgo zvY
 have:=zef (W:=zlY gA) (z:=default) l.length (fun i=>((),l,(l.length:Int),(i:Int),())) (fun i=>((l.take i).map fun f=>bs (txF f),())) (fun _=>true) default (l.map fun f=>bs (txF f))
  (fun i hi H K D=>by
   show (zfd gA l l.length i ((l.take i).map fun f=>bs (txF f))).ev H K D=_
   unfold zfd;obtain ⟨h1,h2,h3⟩:=hg _ (zt hi);have l1:=zpY (l.getD i default).Exp;rw [show ByteArray.mk #[(94:UInt8)]=bs [94] from rfl]
   simp only [Atom.eta,Wy.ev_i,Wy.ev_k,Wy.ev_h,Wy.ev_bn,Wy.ev_d,tT,hi,h1,zZz h3,zDA,zvB,qg,qf,List.length_nil];rw [okS _ _ (by omega),okS _ _ (by omega),zR (by omega),zkA hi,List.map_append]
   have hb:decide ((((l.take i).map fun f=>bs (txF f)).length+1)*16≤reach)=true:=by simp only [qe,List.length_map,List.length_take]; omega
   generalize ((l.take i).map fun f=>bs (txF f))=out at hb ⊢
   have hb':decide ((out.length+(0+1))*16≤reach)=true:=hb;simp only [hb,hb',cond_true,List.map_cons,List.map_nil,txF,zNx,bne0];by_cases he:(l.getD i default).Exp=1
   ·simp only [he,decide_true,Bool.not_true,cond_false,if_true]
   ·simp only [he,decide_false,Bool.not_false,cond_true,if_false,List.singleton_append])
  (fun H K D=>by
   show (zfd gA l l.length l.length ((l.take l.length).map fun f=>bs (txF f))).ev H K D=_
   unfold zfd;simp only [Wy.ev_i,Wy.ev_k,tT,Nat.lt_irrefl,List.take_length]) (l.length+(Int.ofNat l.length).toNat +Int.toNat (0:Int)+(0:Nat)+(1:Nat)) (by omega)
 rw [show allN (fun _=>true) l.length 0=true from zen.2 fun _ _ _=>rfl] at this
 have e:zuM gA (l.length+(Int.ofNat l.length).toNat +Int.toNat (0:Int)+(0:Nat)+(1:Nat)) l (Int.ofNat l.length) (0:Int) []=(true,(l.map txF).map bs):=by rw [List.map_map]; exact this
 have hlen:(zeL (l.map txF) [42]).length≤140737488355328:=by
  refine Nat.le_trans (zWo (B:=4200001000) (l.map txF) [42] fun x hx=> ?_) (by
   rw [List.length_map]; have:=Nat.mul_le_mul hl (Nat.le_refl 4200001000); omega)
  obtain ⟨f,hf,rfl⟩:=List.mem_map.1 hx;have:=(hg f hf).2.1;have:=zpY f.Exp;unfold txF zNx;split
  ·simp only [qf,List.length_nil]; omega
  ·simp only [qg,qf,List.length_nil]; omega
 rw [Wy.fin_bn,e,show ByteArray.mk #[(42:UInt8)]=bs [42] from rfl]
 unfold strings_Join;simp only [cond_true,Wy.fin_bn,Wy.fin_k,zZZ _ _ (by rw [List.length_map]; omega) hlen]
 unfold txL;rw [zAh]
theorem zbfY (a:yC) (hl:a.length≤1000) (hlen:(txN a).length≤140737488355328) (hg:∀ t∈a,gF t.Factors=(true,bs (txL t.Factors))∧(txL t.Factors).length≤4200000000∧rng t.Coeff):zoQ gF a=(true,bs (txN a)):=by
 have hreach:reach=70368744177664:=rfl;unfold zoQ zFb;by_cases h0:a=[]
 ·subst h0;have e:txN []=[48]:=by unfold txN; rw [txTs]; rfl
  rw [e]; rfl
 have hne:(Int.ofNat a.length==(0:Int))=false:=by
  rw [beq_eq_false_iff_ne]; intro e;have:(a.length:Int)=0:=e;exact h0 (List.length_eq_zero_iff.1 (by omega))
 have:=zef (W:=zxm gF) (z:=default) a.length (fun i=>((),a,(a.length:Int),(i:Int),())) (fun i=>((a.take i).map fun f=>bs (txT f),())) (fun _=>true) default (a.map fun f=>bs (txT f))
  (fun i hi H K D=>by
   show (zlk gF a a.length i ((a.take i).map fun f=>bs (txT f))).ev H K D=_
   unfold zlk;obtain ⟨h1,h2,h3⟩:=hg _ (zt hi);have l1:=zpY (a.getD i default).Coeff;rw [show ByteArray.mk #[(42:UInt8)]=bs [42] from rfl]
   have hL:decide ((i:Int)<(a.length:Int))=true:=by simp [hi]
   have hL':decide ((i:Int)<Int.ofNat a.length)=true:=hL;simp only [Wy.ev_i,Wy.ev_k,Wy.ev_h,Wy.ev_bn,Wy.ev_d,hL,hL',zfc,Bool.and_self,cond_true,Int.toNat_natCast,h1,z9k h3,zDA,zvB,qg,qf,List.length_nil,show (Int.ofNat (a.getD i default).Factors.length==(0:Int))=((a.getD i default).Factors.length==0) from zxe _ 0]
   rw [okS _ _ (by omega),okS _ _ (by omega),zR (by omega),zkA hi,List.map_append]
   have hb:decide ((((a.take i).map fun f=>bs (txT f)).length+1)*16≤reach)=true:=by simp only [qe,List.length_map,List.length_take]; omega
   generalize ((a.take i).map fun f=>bs (txT f))=out at hb ⊢
   have hb':decide ((out.length+(0+1))*16≤reach)=true:=hb;simp only [hb,hb',cond_true,List.map_cons,List.map_nil,txT,zUx,beqd]
   have e0:(txFs (a.getD i default).Factors=[])↔(a.getD i default).Factors.length=0:=by
    rw [zAh,List.map_eq_nil_iff,List.length_eq_zero_iff]
   by_cases hf:(a.getD i default).Factors.length=0
   ·rw [if_pos (e0.2 hf),hf]; rfl
   ·rw [if_neg (fun e=>hf (e0.1 e)),beqn,decide_eq_false hf]
    by_cases he:(a.getD i default).Coeff=1
    ·simp only [he,decide_true,cond_true,cond_false,if_true,txL]
    ·simp only [he,decide_false,cond_false,if_false,txL,List.append_assoc,List.singleton_append])
  (fun H K D=>by
   show (zlk gF a a.length a.length ((a.take a.length).map fun f=>bs (txT f))).ev H K D=_
   unfold zlk;simp only [Wy.ev_i,Wy.ev_k,tT,Nat.lt_irrefl,List.take_length]) (a.length+(Int.ofNat a.length).toNat +Int.toNat (0:Int)+(0:Nat)+(1:Nat)) (by omega)
 rw [show allN (fun _=>true) a.length 0=true from zen.2 fun _ _ _=>rfl] at this
 have e:zDQ gF (a.length+(Int.ofNat a.length).toNat +Int.toNat (0:Int)+(0:Nat)+(1:Nat)) a (Int.ofNat a.length) (0:Int) []=(true,(a.map txT).map bs):=by rw [List.map_map]; exact this
 have ex:txN a=zeL (a.map txT) [32,43,32]:=by
  unfold txN zRL;rw [zRs,if_neg (by simpa using h0)]
 rw [ex] at hlen ⊢;rw [Wy.fin_i,hne,cond_false,Wy.fin_bn,e,show ByteArray.mk #[(32:UInt8),(43:UInt8),(32:UInt8)]=bs [32,43,32] from rfl]
 unfold strings_Join;simp only [cond_true,Wy.fin_bn,Wy.fin_k,zZZ _ _ (by rw [List.length_map]; omega) hlen]
theorem zbf6 {V:yC→Bool} (x:Atom) (hx:zdt V x=true) (hw:zgg x) (hi:x.Items.length≤1024) (hg:∀ a,(a∈x.Args∨∃ w∈x.Items,a=w.Ann)→gT a=(true,bs (txN a))∧(txN a).length≤4200000000):ziK gT x=(true,bs (txA x)):=by
 have hreach:reach=70368744177664:=rfl;have W:=zpf hw;unfold ziK zyT;rw [zbfc];cases zcL.1 hx with
 | var r h=>
  have hr:=W.2.2.2.2.1;simp only [Wy.fin_bn,Wy.fin_i,Wy.fin_k,zbcT h (zmK hr.1) (zmK hr.2)];simp [zdw]
 | mon a b ha hb _ _ _=>
  obtain ⟨g1,l1⟩:=hg a (.inl (by simp))
  obtain ⟨g2,l2⟩:=hg b (.inl (by simp))
  rw [zmF];simp only [List.map,zdw,List.getD_cons_zero,List.getD_cons_succ,show ¬ (1:Int)=0 by decide,if_false,if_true]
  rw [show ByteArray.mk #[(109:UInt8),(111:UInt8),(110:UInt8),(117:UInt8),(115:UInt8),(91:UInt8)]=bs [109,111,110,117,115,91] from rfl,show ByteArray.mk #[(44:UInt8),(32:UInt8)]=bs [44,32] from rfl,show ByteArray.mk #[(93:UInt8)]=bs [93] from rfl]
  simp only [cond_true,cond_false,Wy.fin_i,Wy.fin_bn,Wy.fin_k,show ((1:Int)==0)=false from rfl,show ((1:Int)==1)=true from rfl,show (decide ((0:Int)≤0)&&decide ((0:Int)<Int.ofNat [a,b].length))=true from rfl,show (decide ((0:Int)≤1)&&decide ((1:Int)<Int.ofNat [a,b].length))=true from rfl,show [a,b].getD (Int.toNat 0) default=a from rfl,show [a,b].getD (Int.toNat 1) default=b from rfl,g1,g2,zDA,zvB,List.length_append,List.length_cons,List.length_nil]
  rw [okS _ _ (by omega),okS _ _ (by omega),okS _ _ (by omega),okS _ _ (by omega)]
  simp
 | del a ha _ _ _=>
  obtain ⟨g1,l1⟩:=hg a (.inl (by simp))
  rw [zmF];simp only [List.map,zdw,List.getD_cons_zero,show ¬ (2:Int)=0 by decide,show ¬ (2:Int)=1 by decide,if_false,if_true]
  rw [show ByteArray.mk #[(100:UInt8),(101:UInt8),(108:UInt8),(116:UInt8),(97:UInt8),(91:UInt8)]=bs [100,101,108,116,97,91] from rfl,show ByteArray.mk #[(93:UInt8)]=bs [93] from rfl]
  simp only [cond_true,cond_false,Wy.fin_i,Wy.fin_bn,Wy.fin_k,show ((2:Int)==0)=false from rfl,show ((2:Int)==1)=false from rfl,show ((2:Int)==2)=true from rfl,show (decide ((0:Int)≤0)&&decide ((0:Int)<Int.ofNat [a].length))=true from rfl,show [a].getD (Int.toNat 0) default=a from rfl,g1,zDA,zvB,List.length_append,List.length_cons,List.length_nil]
  rw [okS _ _ (by omega),okS _ _ (by omega)]
  simp
 | abs a ha _ _=>
  obtain ⟨g1,l1⟩:=hg a (.inl (by simp))
  rw [zmF];simp only [List.map,zdw,List.getD_cons_zero,show ¬ (3:Int)=0 by decide,show ¬ (3:Int)=1 by decide,show ¬ (3:Int)=2 by decide,if_false,if_true]
  rw [show ByteArray.mk #[(97:UInt8),(98:UInt8),(115:UInt8),(101:UInt8),(110:UInt8),(116:UInt8),(91:UInt8)]=bs [97,98,115,101,110,116,91] from rfl,show ByteArray.mk #[(93:UInt8)]=bs [93] from rfl]
  simp only [cond_true,cond_false,Wy.fin_i,Wy.fin_bn,Wy.fin_k,show ((3:Int)==0)=false from rfl,show ((3:Int)==1)=false from rfl,show ((3:Int)==2)=false from rfl,show ((3:Int)==3)=true from rfl,show (decide ((0:Int)≤0)&&decide ((0:Int)<Int.ofNat [a].length))=true from rfl,show [a].getD (Int.toNat 0) default=a from rfl,g1,zDA,zvB,List.length_append,List.length_cons,List.length_nil]
  rw [okS _ _ (by omega),okS _ _ (by omega)]
  simp
 | tst f l o b hl hv hs hf=>
  obtain ⟨⟨f0,f3,o5,o10⟩,hb,hit⟩:=ztN hf;have hwl:=zh5 W.2.1.1;have hwb:rng b.Int:=zmK W.2.2.1.2.1
  have:=zef (W:=znl gT) (z:=default) l.length (fun i=>((),(),l,(l.length:Int),(i:Int),())) (fun i=>((⟨4,⟨0,0⟩,[],f,l,o,b⟩:Atom),(l.take i).map fun w=>bs (txI w),())) (fun _=>true) default ((⟨4,⟨0,0⟩,[],f,l,o,b⟩:Atom),l.map fun w=>bs (txI w))
   (fun i hi' H K D=>by
    show (zfT gT l l.length i (⟨4,⟨0,0⟩,[],f,l,o,b⟩:Atom) ((l.take i).map fun w=>bs (txI w))).ev H K D=_
    unfold zfT;have hm:=zt hi';obtain ⟨g1,l1⟩:=hg _ (.inr ⟨_,hm,rfl⟩);have l2:=zQQ (hit _ hm).1;rw [show ByteArray.mk #[(58:UInt8),(32:UInt8)]=bs [58,32] from rfl]
    simp only [Wy.ev_i,Wy.ev_k,Wy.ev_h,Wy.ev_bn,Wy.ev_d,tT,hi',z7v (hit _ hm).1 (zmK (hwl _ hm).1.2.1),g1,zDA,zvB,qg,qf,List.length_nil];rw [okS _ _ (by omega),okS _ _ (by omega),zR (by simp only at hi; omega),zkA hi',List.map_append]
    have hb:decide ((((l.take i).map fun w=>bs (txI w)).length+1)*16≤reach)=true:=by simp only at hi; simp only [qe,List.length_map,List.length_take]; omega
    generalize ((l.take i).map fun w=>bs (txI w))=out at hb ⊢
    have hb':decide ((out.length+(0+1))*16≤reach)=true:=hb;simp only [hb,hb',cond_true,List.map_cons,List.map_nil,txI,List.append_assoc])
   (fun H K D=>by
    show (zfT gT l l.length l.length (⟨4,⟨0,0⟩,[],f,l,o,b⟩:Atom) ((l.take l.length).map fun w=>bs (txI w))).ev H K D=_
    unfold zfT;simp only [Wy.ev_i,Wy.ev_k,tT,Nat.lt_irrefl,List.take_length]) (l.length+(Int.ofNat l.length).toNat +Int.toNat (0:Int)+([]:yA).length+l.length+(0:Nat)+(1:Nat)) (by omega)
  rw [show allN (fun _=>true) l.length 0=true from zen.2 fun _ _ _=>rfl] at this
  have e:zws gT (l.length+(Int.ofNat l.length).toNat +Int.toNat (0:Int)+([]:yA).length+l.length+(0:Nat)+(1:Nat)) l (Int.ofNat l.length) (0:Int) (⟨4,⟨0,0⟩,[],f,l,o,b⟩:Atom) []=(true,((⟨4,⟨0,0⟩,[],f,l,o,b⟩:Atom),(l.map txI).map bs)):=by rw [List.map_map]; exact this
  simp only at hi
  have hlen:(zeL (l.map txI) [59,32]).length≤5000000000000:=by
   refine Nat.le_trans (zWo (B:=4200001000) (l.map txI) [59,32] fun y hy=> ?_) (by
    rw [List.length_map]; have:=Nat.mul_le_mul hi (Nat.le_refl 4200001000); omega)
   obtain ⟨w,hw,rfl⟩:=List.mem_map.1 hy;have h1:=(hg _ (.inr ⟨w,hw,rfl⟩)).2;have h2:=zQQ (hit w hw).1;simp only [txI,qg,qf,List.length_nil]; omega
  have l3:=z9x f;have l4:=z9o o;have l5:=zQQ hb;rw [zK8];simp only [zdw,show ¬ (4:Int)=0 by decide,show ¬ (4:Int)=1 by decide,show ¬ (4:Int)=2 by decide,show ¬ (4:Int)=3 by decide,if_false]
  rw [show ByteArray.mk #[(116:UInt8),(101:UInt8),(115:UInt8),(116:UInt8),(91:UInt8)]=bs [116,101,115,116,91] from rfl,show ByteArray.mk #[(123:UInt8)]=bs [123] from rfl,show ByteArray.mk #[(125:UInt8),(32:UInt8)]=bs [125,32] from rfl,show ByteArray.mk #[(59:UInt8),(32:UInt8)]=bs [59,32] from rfl,show ByteArray.mk #[(32:UInt8)]=bs [32] from rfl,show ByteArray.mk #[(93:UInt8)]=bs [93] from rfl]
  simp only [Wy.fin_i,show ((4:Int)==0)=false from rfl,show ((4:Int)==1)=false from rfl,show ((4:Int)==2)=false from rfl,show ((4:Int)==3)=false from rfl,cond_false]
  unfold strings_Join;obtain ⟨fb,ft⟩:=zbdX f0 f3;obtain ⟨ob,ot⟩:=zbe6 o5 o10;rw [e,zXo];simp only [Wy.fin_i,Wy.fin_k,Wy.fin_bn,fb,ft,ob,ot,zZZ _ _ (show (l.map txI).length≤140737488355328 by rw [List.length_map]; omega) (show (zeL (l.map txI) [59,32]).length≤140737488355328 by omega),z7v hb hwb,cond_true,zDA,zvB,List.length_append,List.length_cons,List.length_nil]
  rw [okS _ _ (by omega),okS _ _ (by omega),okS _ _ (by omega),okS _ _ (by omega),okS _ _ (by omega),okS _ _ (by omega),okS _ _ (by omega),okS _ _ (by omega)]
  simp
end
theorem z8j:∀ n,
  (∀ m a,zbj m a=true→zgr a→3*m≤n→zuY n a=(true,bs (txN a)))∧
  (∀ m x,zdt (zbj m) x=true→zgg x→x.Items.length≤1024→3*m+1≤n→zmb n x=(true,bs (txA x)))∧
  (∀ m (l:yD),l.length≤1000→(∀ f∈l,zdt (zbj m) f.Atom=true∧zgg f.Atom∧f.Atom.Items.length≤1024∧rng f.Exp)→3*m+2≤n→zgh n l=(true,bs (txL l)))
 | 0=>by
  refine ⟨?_, ?_, ?_⟩
  ·intro m a h _ hm; have:m=0:=by omega
   subst this; cases h
  all_goals (intros; omega)
 | n+1=>by
  obtain ⟨h1,h2,h3⟩:=z8j n;refine ⟨?_, ?_, ?_⟩
  ·intro m a h hw hm;cases m with
   | zero=>cases h
   | succ m=>
    have hl:=zwN (zGU h);have hlen:=(zXq (m+1)).1 a h;rw [zRM];refine zbfY _ a (by omega) (by omega) fun t ht=> ?_
    obtain ⟨⟨c1,c2⟩,hok⟩:=zwv h ht;obtain ⟨q1,q2⟩:=hl.2.2.2 t ht;have hwt:=zol (zwY (ztF hw t ht)).2.1;refine ⟨h3 m t.Factors (by omega) (fun f hf=> ?_) (by omega), ?_,by constructor <;>omega⟩
    ·obtain ⟨⟨e1,_⟩,hv⟩:=zpe hok hf;exact ⟨hv,(zqH (hwt f hf)).1,(q2 f hf).2,by have:=(q2 f hf).1; constructor <;>omega⟩
    ·refine Nat.le_trans (z8a fun f hf=>(zXq m).2 _ (zpe hok hf).2) ?_
     have hs:t.Factors.length+zbI t.Factors≤zN a:=by
      clear hok q1 q2 hwt hw h hlen hl;induction a with
      | nil=>cases ht
      | cons b r ih=>
       rw [zet];rcases qd.1 ht with rfl | ht
       ·omega
       ·have:=ih ht; omega
     omega
  ·intro m x h hw hi hm;rw [zIe];have W:=zpf hw;refine zbf6 _ x h hw hi fun a ha=> ?_
   have hv:zbj m a=true∧zgr a:=by
    rcases ha with ha | ⟨w,hw',rfl⟩
    ·refine ⟨?_,(zjX W.1.1 a ha).1⟩;cases zcL.1 h with
     | var r h=>cases ha
     | mon b c hb hc _ _ _=>
      simp only [qd,List.not_mem_nil,or_false] at ha;rcases ha with rfl | rfl
      ·exact hb
      ·exact hc
     | del b hb _ _ _=>rw [qh] at ha; subst ha; exact hb
     | abs b hb _ _=>rw [qh] at ha; subst ha; exact hb
     | tst f l o b hl hi hs hf=>cases ha
    ·refine ⟨?_,(zh5 W.2.1.1 w hw').2.1⟩;cases zcL.1 h with
     | tst f l o b hl hi2 hs hf=>exact (hi2 w hw').1
     | _=>cases hw'
   refine ⟨h1 m a hv.1 hv.2 (by omega), ?_⟩
   have q1:=(zXq m).1 a hv.1;have q2:=(ze1 hv.1).2.1;omega
  ·intro m l hl h hm;rw [zEO];refine zbgb _ l hl fun f hf=> ?_
   obtain ⟨q1,q2,q3,q4⟩:=h f hf;refine ⟨h2 m f.Atom q1 q2 q3 (by omega), ?_,q4⟩
   have q5:=(zXq m).2 f.Atom q1;have q6:=zZi q1 q3;omega
def hd (S:List UInt8) (u:List UInt8):Prop:=∀ c,u.head? =some c→c∈S
theorem zqv {S:List UInt8} {c:UInt8} {u:List UInt8} (h:c∈S):hd S (c::u):=fun d hd=>by
 simp only [List.head?_cons,qa] at hd; subst hd; exact h
theorem hd.mono {S T:List UInt8} {u:List UInt8} (h:hd S u) (hs:∀ c∈S,c∈T):hd T u:=fun c hc=>hs c (h c hc)
theorem hd.noDig {S:List UInt8} {u:List UInt8} (h:hd S u) (hs:∀ c∈S,isDg c=false):noDig u:=fun c hc=>hs c (h c hc)
theorem hd.ne {S:List UInt8} {u:List UInt8} (h:hd S u) {c:UInt8} (hs:c∉S):u.head? ≠some c:=fun e=>hs (h c e)
theorem hd.cons_ne {S:List UInt8} {u:List UInt8} {c:UInt8} (h:hd S (c::u)) (hs:c∉S):False:=hs (h c rfl)
theorem zM7 {α:Type} (tx:α→List UInt8) (S0:List UInt8) (s0:UInt8) (sr:List UInt8) (P:α→Prop) (hS:s0∉S0) (hR:∀ x y,P x→P y→∀ u v,hd (s0::S0) u→hd (s0::S0) v→tx x++u=tx y++v→x=y∧u=v):
  ∀ l l':List α,l≠[]→l'≠[]→(∀ x∈l,P x)→(∀ x∈l',P x)→∀ u v,hd S0 u→hd S0 v→zeL (l.map tx) (s0::sr)++u=zeL (l'.map tx) (s0::sr)++v→l=l'∧u=v
 | [],_,h,_,_,_,_,_,_,_,_=>absurd rfl h
 | _::_,[],_,h,_,_,_,_,_,_,_=>absurd rfl h
 | [x],[y],_,_,hx,hy,u,v,hu,hv,h=>by
  have mono:∀ c∈S0,c∈s0::S0:=fun c hc=>List.mem_cons_of_mem _ hc
  obtain ⟨h1,h2⟩:=hR x y (hx x (by simp)) (hy y (by simp)) u v (hu.mono mono) (hv.mono mono) h
  exact ⟨by rw [h1],h2⟩
 | [x],y::y'::r',_,_,hx,hy,u,v,hu,hv,h=>by
  have mono:∀ c∈S0,c∈s0::S0:=fun c hc=>List.mem_cons_of_mem _ hc
  simp only [List.map,zeL,List.append_assoc] at h;obtain ⟨h1,h2⟩:=hR x y (hx x (by simp)) (hy y (by simp)) u _ (hu.mono mono) (zqv (by simp)) h
  rw [h2] at hu;exact (hu.cons_ne hS).elim
 | x::x'::r,[y],_,_,hx,hy,u,v,hu,hv,h=>by
  have mono:∀ c∈S0,c∈s0::S0:=fun c hc=>List.mem_cons_of_mem _ hc
  simp only [List.map,zeL,List.append_assoc] at h;obtain ⟨h1,h2⟩:=hR x y (hx x (by simp)) (hy y (by simp)) _ v (zqv (by simp)) (hv.mono mono) h
  rw [← h2] at hv;exact (hv.cons_ne hS).elim
 | x::x'::r,y::y'::r',_,_,hx,hy,u,v,hu,hv,h=>by
  have h:zeL (((x::x'::r)).map tx) (s0::sr)++u=zeL (((y::y'::r')).map tx) (s0::sr)++v:=h;simp only [List.map,zeL,List.append_assoc] at h;obtain ⟨h1,h2⟩:=hR x y (hx x (by simp)) (hy y (by simp)) _ _ (zqv (by simp)) (zqv (by simp)) h
  have h3:=(List.append_right_inj sr).1 (List.cons.inj h2).2;obtain ⟨h4,h5⟩:=zM7 tx S0 s0 sr P hS hR (x'::r) (y'::r') (by simp) (by simp) (fun z hz=>hx z (List.mem_cons_of_mem _ hz)) (fun z hz=>hy z (List.mem_cons_of_mem _ hz)) u v hu hv h3
  exact ⟨by rw [h1,h4],h5⟩
theorem z6f {t:ByteArray} (h:t.size=0):t=ByteArray.mk #[]:=zGX (by
 have:t.data.toList.length=0:=by rw [Array.length_toList]; exact h
 rw [List.length_eq_zero_iff.1 this])
theorem z6m {x y:Value} (hx:valV x=true) (hy:valV y=true) (rx:rng x.Int) (ry:rng y.Int) {u v:List UInt8} (hu:hd [58,93] u) (hv:hd [58,93] v) (h:txV x++u=txV y++v):x=y∧u=v:=by
 have d1:∀ c∈([58,93]:List UInt8),isDg c=false:=by decide
 obtain ⟨cx,sx,ex,dx⟩:=z4T rx.1 rx.2;obtain ⟨cy,sy,ey,dy⟩:=z4T ry.1 ry.2
 have nd:∀ c:UInt8,c=45∨isDg c=true→c≠39∧c≠84∧c≠70:=fun c hc=>by
  refine ⟨?_, ?_, ?_⟩ <;>(intro e; subst e; revert hc; decide)
 obtain ⟨kx,ix,tx⟩:=x;obtain ⟨ky,iy,ty⟩:=y;simp only [valV,Bool.or_eq_true,qc,beq_iff_eq,qe] at hx hy;simp only at rx ry ex ey;rcases hx with (⟨rfl,hx⟩ | ⟨⟨rfl,rfl⟩,hx⟩) | ⟨⟨rfl,hx⟩,hx2⟩
 ·have:=z6f hx; subst this;rcases hy with (⟨rfl,hy⟩ | ⟨⟨rfl,rfl⟩,hy⟩) | ⟨⟨rfl,hy⟩,hy2⟩
  ·have:=z6f hy; subst this;simp only [txV,if_true] at h;obtain ⟨h1,h2⟩:=zwD rx ry (hu.noDig d1) (hv.noDig d1) h;exact ⟨by rw [h1],h2⟩
  ·simp only [txV,if_true,show ¬ (1:Int)=0 by decide,if_false,ex,List.cons_append,qj] at h
   exact absurd h.1 (nd cx dx).1
  ·rcases hy2 with rfl | rfl
   ·simp only [txV,if_true,show ¬ (2:Int)=0 by decide,show ¬ (2:Int)=1 by decide,show ¬ (0:Int)=1 by decide,if_false,ex,List.cons_append,qj] at h
    exact absurd h.1 (nd cx dx).2.2
   ·simp only [txV,if_true,show ¬ (2:Int)=0 by decide,show ¬ (2:Int)=1 by decide,if_false,ex,List.cons_append,qj] at h
    exact absurd h.1 (nd cx dx).2.1
 ·rcases hy with (⟨rfl,hy⟩ | ⟨⟨rfl,rfl⟩,hy⟩) | ⟨⟨rfl,hy⟩,hy2⟩
  ·simp only [txV,if_true,show ¬ (1:Int)=0 by decide,if_false,ey,List.cons_append,qj] at h
   exact absurd h.1.symm (nd cy dy).1
  ·simp only [txV,if_true,show ¬ (1:Int)=0 by decide,if_false,List.cons_append,qj,true_and,List.append_assoc,List.nil_append] at h
   obtain ⟨h1,h2⟩:=z0p _ _ u v (hu.ne (by decide)) (hv.ne (by decide)) h
   exact ⟨by rw [zGX h1],h2⟩
  ·rcases hy2 with rfl | rfl <;>simp [txV] at h
 ·have:=z6f hx; subst this;rcases hy with (⟨rfl,hy⟩ | ⟨⟨rfl,rfl⟩,hy⟩) | ⟨⟨rfl,hy⟩,hy2⟩
  ·rcases hx2 with rfl | rfl
   ·simp only [txV,if_true,show ¬ (2:Int)=0 by decide,show ¬ (2:Int)=1 by decide,show ¬ (0:Int)=1 by decide,if_false,ey,List.cons_append,qj] at h
    exact absurd h.1.symm (nd cy dy).2.2
   ·simp only [txV,if_true,show ¬ (2:Int)=0 by decide,show ¬ (2:Int)=1 by decide,if_false,ey,List.cons_append,qj] at h
    exact absurd h.1.symm (nd cy dy).2.1
  ·rcases hx2 with rfl | rfl <;>simp [txV] at h
  ·have:=z6f hy; subst this;rcases hx2 with rfl | rfl <;>rcases hy2 with rfl | rfl <;>simp [txV] at h
   ·exact ⟨rfl,h⟩
   ·exact ⟨rfl,h⟩
theorem zbdb {f g:Int} (hf:0≤f∧f≤3) (hg:0≤g∧g≤3) {u v:List UInt8} (h:fnT f++123::u=fnT g++123::v):f=g∧u=v:=by
 have c1:f=0∨f=1∨f=2∨f=3:=by omega
 have c2:g=0∨g=1∨g=2∨g=3:=by omega
 rcases c1 with rfl | rfl | rfl | rfl <;>rcases c2 with rfl | rfl | rfl | rfl <;>simp [fnT] at h <;>exact ⟨rfl,h⟩
theorem zbcA {f g:Int} (hf:5≤f∧f≤10) (hg:5≤g∧g≤10) {u v:List UInt8} (h:opT f++32::u=opT g++32::v):f=g∧u=v:=by
 have c1:f=5∨f=6∨f=7∨f=8∨f=9∨f=10:=by omega
 have c2:g=5∨g=6∨g=7∨g=8∨g=9∨g=10:=by omega
 rcases c1 with rfl | rfl | rfl | rfl | rfl | rfl <;>rcases c2 with rfl | rfl | rfl | rfl | rfl | rfl <;>simp [opT] at h <;>exact ⟨rfl,h⟩
def SN:List UInt8:=[93,44,59,125]
def ST:List UInt8:=32::SN
def SF:List UInt8:=42::ST
def SA:List UInt8:=94::SF
theorem z1A:∀ c∈SA,isDg c=false:=by decide
theorem zbgv:∀ c∈ST,c∈SA:=by decide
theorem z1I:∀ c∈SF,c∈SA:=by decide
def RdN (V:yC→Bool):Prop:=∀ a b,V a=true→V b=true→zgr a→zgr b→∀ u v,hd SN u→hd SN v→txN a++u=txN b++v→a=b∧u=v
def RdA (V:yC→Bool):Prop:=∀ x y,zdt V x=true→zdt V y=true→zgg x→zgg y→∀ u v,hd SA u→hd SA v→txA x++u=txA y++v→x=y∧u=v
theorem zbcu {V:yC→Bool} {x:Atom} (h:zdt V x=true):∃ c r,txA x=c::r∧isDg c=false:=by
 cases zcL.1 h with
 | var r h=>rw [txA]; exact ⟨116,_,rfl,rfl⟩
 | mon a b _ _ _ _ _=>rw [txA]; exact ⟨109,_,rfl,rfl⟩
 | del a _ _ _ _=>rw [txA]; exact ⟨100,_,rfl,rfl⟩
 | abs a _ _ _=>rw [txA]; exact ⟨97,_,rfl,rfl⟩
 | tst f l o b _ _ _ _=>rw [txA]; exact ⟨116,_,rfl,rfl⟩
theorem zba4 {V:yC→Bool} (hV:RdN V):RdA V:=by
 intro x y hx hy wx wy u v hu hv h;have Wx:=zpf wx;have Wy:=zpf wy;have k0:¬ (1:Int)=0:=by decide
 have c44:∀ z,hd SN (44::z):=fun z=>zqv (by decide)
 have c93:∀ z,hd SN (93::z):=fun z=>zqv (by decide)
 have tE:∀ (r:RowID),zxo r=true→rng r.Table→∀ w z,ziu r.Table++w≠101::z:=fun r hr hg w z e=>by
  simp only [zxo,qc,qe] at hr;obtain ⟨d1,d2⟩:=zbbH (show 0≤r.Table by omega) hg.2
  cases hl:ziu r.Table with
  | nil=>exact d2 hl
  | cons c s=>
   rw [hl] at e d1;simp only [List.cons_append,qj] at e;rw [List.all_cons,e.1] at d1;revert d1; simp [isDg]
 cases zcL.1 hx with
 | var r hr=>
  have rr:=Wx.2.2.2.2.1;simp only at rr;cases zcL.1 hy with
  | var r' hr'=>
   have rr':=Wy.2.2.2.2.1;simp only at rr';rw [txA,txA] at h;simp only [zdw,if_true,txR,List.cons_append,qj,true_and,List.append_assoc] at h;obtain ⟨h1,h2⟩:=zwD (zmK rr.1) (zmK rr'.1) (fun c hc=>by simp only [List.head?_cons,qa] at hc; subst hc; rfl) (fun c hc=>by simp only [List.head?_cons,qa] at hc; subst hc; rfl) h
   simp only [qj,true_and] at h2;obtain ⟨h3,h4⟩:=zwD (zmK rr.2) (zmK rr'.2) (hu.noDig z1A) (hv.noDig z1A) h2;obtain ⟨t,s⟩:=r; obtain ⟨t',s'⟩:=r';simp only at h1 h3;exact ⟨by rw [h1,h3],h4⟩
  | tst f l o b _ _ _ _=>
   rw [txA,txA] at h;simp only [zdw,if_true,txR,show ¬ (4:Int)=0 by decide,show ¬ (4:Int)=1 by decide,show ¬ (4:Int)=2 by decide,show ¬ (4:Int)=3 by decide,if_false,List.cons_append,qj,true_and,List.append_assoc] at h
   exact absurd h (tE r hr (zmK rr.1) _ _)
  | mon a b _ _ _ _ _=>rw [txA,txA] at h; simp [zdw,txR] at h
  | del a _ _ _ _=>rw [txA,txA] at h; simp [zdw,txR] at h
  | abs a _ _ _=>rw [txA,txA] at h; simp [zdw,txR] at h
 | mon a b ha hb _ _ _=>
  cases zcL.1 hy with
  | mon a' b' ha' hb' _ _ _=>
   rw [txA,txA,zmF,zmF] at h;simp only [zdw,if_true,k0,if_false,List.map,List.getD_cons_zero,List.getD_cons_succ,List.cons_append,qj,true_and,List.append_assoc,List.nil_append] at h;have wa:=fun z hz=>(zjX Wx.1.1 z hz).1
   have wb:=fun z hz=>(zjX Wy.1.1 z hz).1
   obtain ⟨h1,h2⟩:=hV a a' ha ha' (wa a (by simp)) (wb a' (by simp)) _ _ (c44 _) (c44 _) h
   simp only [qj,true_and] at h2;obtain ⟨h3,h4⟩:=hV b b' hb hb' (wa b (by simp)) (wb b' (by simp)) _ _ (c93 _) (c93 _) h2
   simp only [qj,true_and] at h4;exact ⟨by rw [h1,h3],h4⟩
  | var r h=>rw [txA,txA] at h; simp [zdw,txR] at h
  | del a _ _ _ _=>rw [txA,txA] at h; simp [zdw,txR] at h
  | abs a _ _ _=>rw [txA,txA] at h; simp [zdw,txR] at h
  | tst f l o b _ _ _ _=>rw [txA,txA] at h; simp [zdw,txR] at h
 | del a ha _ _ _=>
  cases zcL.1 hy with
  | del a' ha' _ _ _=>
   rw [txA,txA,zmF,zmF] at h;simp only [zdw,if_true,show ¬ (2:Int)=0 by decide,show ¬ (2:Int)=1 by decide,if_false,List.map,List.getD_cons_zero,List.cons_append,qj,true_and,List.append_assoc,List.nil_append] at h
   have wa:=fun z hz=>(zjX Wx.1.1 z hz).1
   have wb:=fun z hz=>(zjX Wy.1.1 z hz).1
   obtain ⟨h1,h2⟩:=hV a a' ha ha' (wa a (by simp)) (wb a' (by simp)) _ _ (c93 _) (c93 _) h
   simp only [qj,true_and] at h2;exact ⟨by rw [h1],h2⟩
  | var r h=>rw [txA,txA] at h; simp [zdw,txR] at h
  | mon a b _ _ _ _ _=>rw [txA,txA] at h; simp [zdw,txR] at h
  | abs a _ _ _=>rw [txA,txA] at h; simp [zdw,txR] at h
  | tst f l o b _ _ _ _=>rw [txA,txA] at h; simp [zdw,txR] at h
 | abs a ha _ _=>
  cases zcL.1 hy with
  | abs a' ha' _ _=>
   rw [txA,txA,zmF,zmF] at h;simp only [zdw,if_true,show ¬ (3:Int)=0 by decide,show ¬ (3:Int)=1 by decide,show ¬ (3:Int)=2 by decide,if_false,List.map,List.getD_cons_zero,List.cons_append,qj,true_and,List.append_assoc,List.nil_append] at h
   have wa:=fun z hz=>(zjX Wx.1.1 z hz).1
   have wb:=fun z hz=>(zjX Wy.1.1 z hz).1
   obtain ⟨h1,h2⟩:=hV a a' ha ha' (wa a (by simp)) (wb a' (by simp)) _ _ (c93 _) (c93 _) h
   simp only [qj,true_and] at h2;exact ⟨by rw [h1],h2⟩
  | var r h=>rw [txA,txA] at h; simp [zdw,txR] at h
  | mon a b _ _ _ _ _=>rw [txA,txA] at h; simp [zdw,txR] at h
  | del a _ _ _ _=>rw [txA,txA] at h; simp [zdw,txR] at h
  | tst f l o b _ _ _ _=>rw [txA,txA] at h; simp [zdw,txR] at h
 | tst f l o b hl hi hs hf=>
  cases zcL.1 hy with
  | tst f' l' o' b' hl' hi' hs' hf'=>
   obtain ⟨⟨f0,f3,o5,o10⟩,hb,hit⟩:=ztN hf;obtain ⟨⟨f0',f3',o5',o10'⟩,hb',hit'⟩:=ztN hf';have wl:=zh5 Wx.2.1.1;have wl':=zh5 Wy.2.1.1;rw [txA,txA,zK8,zK8] at h;simp only [zdw,show ¬ (4:Int)=0 by decide,show ¬ (4:Int)=1 by decide,show ¬ (4:Int)=2 by decide,show ¬ (4:Int)=3 by decide,if_false,List.cons_append,qj,true_and,List.append_assoc,List.nil_append] at h
   obtain ⟨h1,h2⟩:=zbdb ⟨f0,f3⟩ ⟨f0',f3'⟩ h
   obtain ⟨h3,h4⟩:=zM7 txI [125] 59 [32] (fun w=>(V w.Ann=true∧zgr w.Ann)∧valV w.Value=true∧rng w.Value.Int) (by decide) (fun x y px py u v hu hv e=>by
    simp only [txI,List.append_assoc,List.cons_append,List.nil_append] at e;obtain ⟨e1,e2⟩:=z6m px.2.1 py.2.1 px.2.2 py.2.2 (zqv (by decide)) (zqv (by decide)) e
    simp only [qj,true_and] at e2;obtain ⟨e3,e4⟩:=hV _ _ px.1.1 py.1.1 px.1.2 py.1.2 u v (hu.mono (by decide)) (hv.mono (by decide)) e2
    obtain ⟨vx,ax⟩:=x; obtain ⟨vy,ay⟩:=y;simp only at e1 e3;exact ⟨by rw [e1,e3],e4⟩) l l' hl hl' (fun w hw=>⟨⟨(hi w hw).1,(wl w hw).2.1⟩,(hit w hw).1,zmK (wl w hw).1.2.1⟩) (fun w hw=>⟨⟨(hi' w hw).1,(wl' w hw).2.1⟩,(hit' w hw).1,zmK (wl' w hw).1.2.1⟩) _ _ (zqv (by decide)) (zqv (by decide)) h2
   simp only [qj,true_and] at h4;obtain ⟨h5,h6⟩:=zbcA ⟨o5,o10⟩ ⟨o5',o10'⟩ h4;obtain ⟨h7,h8⟩:=z6m hb hb' (zmK Wx.2.2.1.2.1) (zmK Wy.2.2.1.2.1) (zqv (by decide)) (zqv (by decide)) h6
   simp only [qj,true_and] at h8;exact ⟨by rw [h1,h3,h5,h7],h8⟩
  | var r hr=>
   have rr:=Wy.2.2.2.2.1;simp only at rr;rw [txA,txA] at h;simp only [zdw,if_true,txR,show ¬ (4:Int)=0 by decide,show ¬ (4:Int)=1 by decide,show ¬ (4:Int)=2 by decide,show ¬ (4:Int)=3 by decide,if_false,List.cons_append,qj,true_and,List.append_assoc] at h
   exact absurd h.symm (tE r hr (zmK rr.1) _ _)
  | mon a b _ _ _ _ _=>rw [txA,txA] at h; simp [zdw,txR] at h
  | del a _ _ _ _=>rw [txA,txA] at h; simp [zdw,txR] at h
  | abs a _ _ _=>rw [txA,txA] at h; simp [zdw,txR] at h
def gF (V:yC→Bool) (f:Factor):Prop:=zdt V f.Atom=true∧zgg f.Atom∧rng f.Exp
theorem zbf9 {V:yC→Bool} (hA:RdA V) {f g:Factor} (hf:gF V f) (hg:gF V g) {u v:List UInt8} (hu:hd SF u) (hv:hd SF v) (h:txF f++u=txF g++v):f=g∧u=v:=by
 obtain ⟨x,e⟩:=f; obtain ⟨y,e'⟩:=g;obtain ⟨a1,a2,a3⟩:=hf; obtain ⟨b1,b2,b3⟩:=hg;simp only at a1 a2 a3 b1 b2 b3;have c94:∀ z,hd SA (94::z):=fun z=>zqv (by decide)
 have n94:(94:UInt8)∉SF:=by decide
 have dg:∀ c∈SF,isDg c=false:=fun c hc=>z1A c (z1I c hc)
 unfold txF zNx at h;simp only at h;by_cases h1:e=1
 ·by_cases h2:e'=1
  ·rw [if_pos h1,if_pos h2] at h;obtain ⟨q1,q2⟩:=hA x y a1 b1 a2 b2 u v (hu.mono z1I) (hv.mono z1I) h;exact ⟨by rw [q1,h1,h2],q2⟩
  ·rw [if_pos h1,if_neg h2,List.append_assoc] at h;obtain ⟨q1,q2⟩:=hA x y a1 b1 a2 b2 u _ (hu.mono z1I) (c94 _) h;rw [q2] at hu;exact (hu.cons_ne n94).elim
 ·by_cases h2:e'=1
  ·rw [if_neg h1,if_pos h2,List.append_assoc] at h;obtain ⟨q1,q2⟩:=hA x y a1 b1 a2 b2 _ v (c94 _) (hv.mono z1I) h;rw [← q2] at hv;exact (hv.cons_ne n94).elim
  ·rw [if_neg h1,if_neg h2,List.append_assoc,List.append_assoc] at h;obtain ⟨q1,q2⟩:=hA x y a1 b1 a2 b2 _ _ (c94 _) (c94 _) h;simp only [List.cons_append,qj,true_and] at q2;obtain ⟨q3,q4⟩:=zwD a3 b3 (hu.noDig dg) (hv.noDig dg) q2;exact ⟨by rw [q1,q3],q4⟩
theorem z3I {V:yC→Bool} (hA:RdA V) {l l':yD} (hl:l≠[]) (hl':l'≠[]) (h1:∀ f∈l,gF V f) (h2:∀ f∈l',gF V f) {u v:List UInt8} (hu:hd ST u) (hv:hd ST v) (h:txL l++u=txL l'++v):l=l'∧u=v:=by
 unfold txL at h;rw [zAh,zAh] at h;exact zM7 txF ST 42 [] (gF V) (by decide) (fun x y px py u v hu hv e=>zbf9 hA px py hu hv e) l l' hl hl' h1 h2 u v hu hv h
theorem zF5 {V:yC→Bool} {l:yD} (hl:l≠[]) (h:∀ f∈l,gF V f):∃ c r,txL l=c::r∧isDg c=false:=by
 cases l with
 | nil=>exact absurd rfl hl
 | cons f r=>
  obtain ⟨c,s,e,hc⟩:=zbcu (h f (by simp)).1
  have:∃ s',txF f=c::s':=by
   unfold txF zNx;split
   ·exact ⟨s,e⟩
   ·exact ⟨_,by rw [e]; rfl⟩
  obtain ⟨s',e'⟩:=this;unfold txL;rw [zAh];cases r with
  | nil=>exact ⟨c,s',by simp only [List.map,zeL]; exact e',hc⟩
  | cons g r=>exact ⟨c,_,by simp only [List.map,zeL]; rw [e']; rfl,hc⟩
def gT (V:yC→Bool) (t:Term):Prop:=(1≤t.Coeff∧t.Coeff≤9223372036854775807)∧∀ f∈t.Factors,gF V f
theorem z3u {n:Int} (h:1≤n) (h2:n≤9223372036854775807):∃ c r,ziu n=c::r∧isDg c=true∧c≠48:=by
 have e:ziu n=Lib.decDigits n.toNat:=by rw [zZA (by omega) h2,Lib.itoa,if_neg (by omega)]
 obtain ⟨a1,a2,a3,a4⟩:=zUJ n.toNat n.toNat (Nat.le_refl _);rw [e];cases hl:Lib.decDigits n.toNat with
 | nil=>exact absurd hl a3
 | cons c r=>
  rw [hl] at a1 a4;rw [List.all_cons,qc] at a1;exact ⟨c,r,rfl,a1.1,fun e=>a4 (by omega) (by rw [e]; rfl)⟩
theorem z7M {l:yD}:txFs l=[]↔l=[]:=by rw [zAh,List.map_eq_nil_iff]
theorem z7o (t:Term):txT t=if t.Factors=[] then ziu t.Coeff else if t.Coeff=1 then txL t.Factors else ziu t.Coeff++42::txL t.Factors:=by
 unfold txT zUx;by_cases h:t.Factors=[]
 ·rw [if_pos (z7M.2 h),if_pos h]
 ·rw [if_neg (fun e=>h (z7M.1 e)),if_neg h]; rfl
theorem zbfd {V:yC→Bool} (hA:RdA V) {s t:Term} (hs:gT V s) (ht:gT V t) {u v:List UInt8} (hu:hd ST u) (hv:hd ST v) (h:txT s++u=txT t++v):s=t∧u=v:=by
 obtain ⟨c,l⟩:=s; obtain ⟨c',l'⟩:=t;obtain ⟨⟨c1,c2⟩,h1⟩:=hs; obtain ⟨⟨c1',c2'⟩,h2⟩:=ht;simp only at c1 c2 h1 c1' c2' h2;have dg:∀ c∈ST,isDg c=false:=fun c hc=>z1A c (zbgv c hc)
 have n42:(42:UInt8)∉ST:=by decide
 have d42:∀ z,noDig (42::z):=fun z c hc=>by simp only [List.head?_cons,qa] at hc; subst hc; rfl
 have rc:rng c:=⟨by omega,c2⟩
 have rc':rng c':=⟨by omega,c2'⟩
 obtain ⟨d,r,e,hd,_⟩:=z3u c1 c2;obtain ⟨d',r',e',hd',_⟩:=z3u c1' c2';rw [z7o,z7o] at h;simp only at h;by_cases l0:l=[]
 ·rw [if_pos l0] at h;by_cases l0':l'=[]
  ·rw [if_pos l0'] at h;obtain ⟨q1,q2⟩:=zwD rc rc' (hu.noDig dg) (hv.noDig dg) h;exact ⟨by rw [q1,l0,l0'],q2⟩
  ·rw [if_neg l0'] at h;by_cases k':c'=1
   ·rw [if_pos k'] at h;obtain ⟨d2,r2,e2,hd2⟩:=zF5 l0' h2;rw [e,e2] at h;simp only [List.cons_append,qj] at h;rw [h.1,hd2] at hd; cases hd
   ·rw [if_neg k',List.append_assoc] at h;obtain ⟨q1,q2⟩:=zwD rc rc' (hu.noDig dg) (d42 _) h;rw [q2] at hu;exact (hu.cons_ne n42).elim
 ·rw [if_neg l0] at h;by_cases k:c=1
  ·rw [if_pos k] at h;obtain ⟨d2,r2,e2,hd2⟩:=zF5 l0 h1;by_cases l0':l'=[]
   ·rw [if_pos l0',e2,e'] at h;simp only [List.cons_append,qj] at h;rw [← h.1,hd2] at hd'; cases hd'
   ·rw [if_neg l0'] at h;by_cases k':c'=1
    ·rw [if_pos k'] at h;obtain ⟨q1,q2⟩:=z3I hA l0 l0' h1 h2 hu hv h;exact ⟨by rw [q1,k,k'],q2⟩
    ·rw [if_neg k',e2,e'] at h;simp only [List.cons_append,qj] at h;rw [← h.1,hd2] at hd'; cases hd'
  ·rw [if_neg k,List.append_assoc] at h;by_cases l0':l'=[]
   ·rw [if_pos l0'] at h;obtain ⟨q1,q2⟩:=zwD rc rc' (d42 _) (hv.noDig dg) h;rw [← q2] at hv;exact (hv.cons_ne n42).elim
   ·rw [if_neg l0'] at h;by_cases k':c'=1
    ·rw [if_pos k'] at h;obtain ⟨d2,r2,e2,hd2⟩:=zF5 l0' h2;rw [e,e2] at h;simp only [List.cons_append,qj] at h;rw [h.1,hd2] at hd; cases hd
    ·rw [if_neg k',List.append_assoc] at h;obtain ⟨q1,q2⟩:=zwD rc rc' (d42 _) (d42 _) h;simp only [List.cons_append,qj,true_and] at q2;obtain ⟨q3,q4⟩:=z3I hA l0 l0' h1 h2 hu hv q2;exact ⟨by rw [q1,q3],q4⟩
theorem zbdi {V:yC→Bool} {t:Term} (ht:gT V t):∃ c r,txT t=c::r∧c≠48:=by
 obtain ⟨⟨c1,c2⟩,h1⟩:=ht;obtain ⟨d,r,e,hd,h48⟩:=z3u c1 c2;rw [z7o];by_cases l0:t.Factors=[]
 ·rw [if_pos l0]; exact ⟨d,r,e,h48⟩
 ·rw [if_neg l0];split
  ·obtain ⟨d2,r2,e2,hd2⟩:=zF5 l0 h1;exact ⟨d2,r2,e2,fun e=>by rw [e] at hd2; revert hd2; decide⟩
  ·exact ⟨d,_,by rw [e]; rfl,h48⟩
theorem zbf5 {V:yC→Bool} (hA:RdA V) {a b:yC} (ha:∀ t∈a,gT V t) (hb:∀ t∈b,gT V t) {u v:List UInt8} (hu:hd SN u) (hv:hd SN v) (h:txN a++u=txN b++v):a=b∧u=v:=by
 have en:∀ z:yC,z≠[]→txN z=zeL (z.map txT) [32,43,32]:=fun z hz=>by
  unfold txN zRL; rw [zRs,if_neg (by simpa using hz)]
 have e0:txN []=[48]:=by unfold txN zRL; rw [txTs,if_pos rfl]
 have h48:∀ z:yC,z≠[]→(∀ t∈z,gT V t)→∃ c r,txN z=c::r∧c≠48:=fun z hz hg=>by
  rw [en z hz];cases z with
  | nil=>exact absurd rfl hz
  | cons t r=>
   obtain ⟨c,s,e,hc⟩:=zbdi (hg t (by simp))
   cases r with
   | nil=>exact ⟨c,s,by simp only [List.map,zeL]; exact e,hc⟩
   | cons t' r=>exact ⟨c,_,by simp only [List.map,zeL]; rw [e]; rfl,hc⟩
 by_cases a0:a=[]
 ·by_cases b0:b=[]
  ·rw [a0,b0] at h;exact ⟨by rw [a0,b0],List.append_cancel_left h⟩
  ·obtain ⟨c,r,e,hc⟩:=h48 b b0 hb;rw [a0,e0,e] at h;simp only [List.cons_append,qj] at h;exact absurd h.1.symm hc
 ·by_cases b0:b=[]
  ·obtain ⟨c,r,e,hc⟩:=h48 a a0 ha;rw [b0,e0,e] at h;simp only [List.cons_append,qj] at h;exact absurd h.1 hc
  ·rw [en a a0,en b b0] at h;exact zM7 txT SN 32 [43,32] (gT V) (by decide) (fun x y px py u v hu hv e=>zbfd hA px py hu hv e) a b a0 b0 ha hb u v hu hv h
theorem zbcD:∀ m,RdN (zbj m)∧RdA (zbj m):=by
 intro m;induction m with
 | zero=>
  have:RdN (zbj 0):=fun a b ha=>by cases ha
  exact ⟨this,zba4 this⟩
 | succ m ih=>
  have:RdN (zbj (m+1)):=fun a b ha hb wa wb u v hu hv h=>by
   have key:∀ z,zbj (m+1) z=true→zgr z→∀ t∈z,gT (zbj m) t:=fun z hz wz t ht=>by
    obtain ⟨⟨c1,c2⟩,hok⟩:=zwv hz ht;have hwt:=zol (zwY (ztF wz t ht)).2.1;exact ⟨⟨c1,by omega⟩,fun f hf=>⟨(zpe hok hf).2,(zqH (hwt f hf)).1,zmK (zqH (hwt f hf)).2⟩⟩
   exact zbf5 ih.2 (key a ha wa) (key b hb wb) hu hv h
  exact ⟨this,zba4 this⟩
theorem zbeu {m:Nat} {l l':yD} (h1:∀ f∈l,gF (zbj m) f) (h2:∀ f∈l',gF (zbj m) f) (h:txL l=txL l'):l=l':=by
 have e0:txL []=[]:=by unfold txL; rw [txFs]; rfl
 by_cases l0:l=[]
 ·by_cases l0':l'=[]
  ·rw [l0,l0']
  ·obtain ⟨c,r,e,_⟩:=zF5 l0' h2;rw [l0,e0,e] at h; cases h
 ·by_cases l0':l'=[]
  ·obtain ⟨c,r,e,_⟩:=zF5 l0 h1;rw [l0',e0,e] at h; cases h
  ·exact (z3I (zbcD m).2 l0 l0' h1 h2 (u:=[]) (v:=[]) (fun c hc=>by cases hc) (fun c hc=>by cases hc) (by rw [h])).1
end Go.Proofs.YtljlfiomikifjaaGreatDoor
end
