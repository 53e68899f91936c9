/- Texts of this claim, joined (the program, its functions in plain words, and what they compute). -/
import Derived.Test.YtljlfiomikifjaaGreatDoorGC7
set_option autoImplicit false
set_option linter.unusedVariables false
set_option linter.unusedSectionVars false
set_option linter.unusedSimpArgs false
set_option maxRecDepth 1000000
set_option maxHeartbeats 0
/- Which annotations are valid: both sides compute the same. -/
noncomputable section
namespace Go.Proofs.YtljlfiomikifjaaGreatDoor
open Go Go.Ab
def rz (r:RowID):Bool:=r.Table==(0:Int)&&(r.Seq==(0:Int)&&true)
def zri (V:yC→Bool) (l:yA):Bool:=l.all fun a=>V a&& !(a.length==0)
def zCK (V:yC→Bool) (l:yE):Bool:=l.all fun w=>V w.Ann&& !(w.Ann.length==0)
def zAK (r:RowID):Bool:=decide (r.Table≥1)&&decide (r.Seq≥1)
def zGh (p:yC→Bool):yA→Bool
 | [a]=>p a
 | _=>false
def z3p (p:yC→yC→Bool):yA→Bool
 | [a,b]=>p a b
 | _=>false
def zej (V:yC→Bool) (x:Atom):Bool:=
 zri V x.Args&&
 if x.Kind=0 then plA x&&zAK x.Row&&(x.Args.length==0)
 else rz x.Row&&
  if x.Kind=1 then plA x&&z3p (fun a b=> !decide (a=b)) x.Args
  else if x.Kind=2 then plA x&&zGh (fun a=> !isC a&& !isU a) x.Args
  else if x.Kind=3 then plA x&&zGh (fun a=> !hasC a) x.Args
  else if x.Kind=4 then (x.Args.length==0)&&decide (0<x.Items.length)&&zCK V x.Items&&srtW x.Items&&fitK x.Func x.Items x.Op x.Bound
  else false
def chkF (vat:Atom→Bool) (fs:yD) (k:Nat):Bool:=
 decide (1≤(fs.getD k default).Exp)&& !(((fs.getD k default).Atom.Kind==3||(fs.getD k default).Atom.Kind==4)&&(fs.getD k default).Exp != 1)&&
  (decide (k=0)||decide (cmpT (zdl (fs.getD (k - 1) default).Atom) (zdl (fs.getD k default).Atom)<0))&&vat (fs.getD k default).Atom
def okF (vat:Atom→Bool) (fs:yD):Bool:=allN (chkF vat fs) fs.length 0
def chkT (vat:Atom→Bool) (a:yC) (i:Nat):Bool:=
 decide (1≤(a.getD i default).Coeff)&&decide ((a.getD i default).Coeff≤1152921504606846976)&&
  (decide (i=0)||decide (cmpL (zbz (a.getD (i - 1) default).Factors) (zbz (a.getD i default).Factors)<0))&&okF vat (a.getD i default).Factors
def vAnn (vat:Atom→Bool) (a:yC):Bool:=zeW a&&allN (chkT vat a) a.length 0
def zbB:Nat→yC→Bool
 | 0,_=>false
 | n+1,a=>vAnn (zej (zbB n)) a
theorem zDR (r:RowID):zq6 r=(true,zAK r):=by
 unfold zq6 zP4 zAK;rw [Wy.fin_i,Wy.fin_k,Wy.fin_k];cases decide (r.Table≥1) <;>rfl
theorem zDF {V:yC→Bool} {x:Atom} (h:zej V x=true):0≤x.Kind∧x.Kind≤4:=by
 unfold zej at h;by_cases h0:x.Kind=0
 ·omega
 by_cases h1:x.Kind=1
 ·omega
 by_cases h2:x.Kind=2
 ·omega
 by_cases h3:x.Kind=3
 ·omega
 by_cases h4:x.Kind=4
 ·omega
 simp [h0,h1,h2,h3,h4] at h
theorem zxa (l k:Nat):((Int.ofNat l)==(k:Int))=(l==k):=by
 rw [beqd,beqn]; congr 1; simp; omega
section
variable (V:yC→Bool) (gW:yE→Bool×Bool) (gA:yA→Bool×Bool) (c1:yC→Bool×Bool) (c2:Weighted→Bool×Bool)
theorem z4n (x:Atom) {d:Nat} (hx:zcV (zo d) x) (hd:d≤99) (hA:gA x.Args=(true, !zri V x.Args)) (hW:gW x.Items=(true, !zCK V x.Items)):
  zjx gA c1 gW c2 x=(true,zej V x):=by
 have hS:=z8K x.Items hx.1.2.1 (fun w hw=>(hx.2.2 w hw).2) hd
 have hF:=z1E x.Func x.Items x.Op x.Bound hx.1.2.1;have hE:∀ a∈x.Args,∀ b,zee a b=(true,decide (a=b)):=fun a ha b=>zrM (hx.2.1 a ha) (by omega) b
 have hC:∀ a∈x.Args,ze3 a=(true,hasC a):=fun a ha=>zQ9 a (by
  have:=hx.2.1 a ha;cases d with
  | zero=>exact this.elim
  | succ d=>have:=this.1; omega)
 obtain ⟨k,r,l,f,its,o,b⟩:=x;simp only at hA hW hS hF hE hC;unfold zjx zb7 zej plA;simp only [zDR,hA,hW,hS,hF,Wy.fin_i,Wy.fin_k,Wy.fin_bn,cond_true]
 rw [show (b.Kind==(0:Int)&&(b.Int==(0:Int)&&(b.Text.toList==(ByteArray.mk #[]).toList&&true)))=bz b from rfl,
  show (r.Table==(0:Int)&&(r.Seq==(0:Int)&&true))=rz r from rfl,
  show (Int.ofNat its.length != 0)= !(its.length==0) from congrArg not (zxa its.length 0),show (f != 0)= !(f==0) from rfl,show (o != 0)= !(o==0) from rfl]
 generalize zri V l=A at *;generalize zCK V its=W at *;generalize bz b=B at *;generalize (f==0)=F at *;generalize (o==0)=O at *;generalize rz r=R at *;generalize zAK r=RO at *;generalize srtW its=S at *;generalize fitK f its o b=K at *;have hgt:decide (Int.ofNat its.length>0)=decide (0<its.length):=zqF its.length 0;rw [hgt];generalize (its.length==0)=I at *;generalize decide (0<its.length)=J at *;by_cases h0:k=0
 ·subst h0;simp only [zxa,show ((Int.ofNat l.length)==(0:Int))=(l.length==0) from zxa l.length 0]
  generalize (l.length==0)=L;cases F <;>cases I <;>cases O <;>cases B <;>cases A <;>cases RO <;>rfl
 by_cases h1:k=1
 ·subst h1
  match l,hE with
  | [],_=>cases F <;>cases I <;>cases O <;>cases B <;>cases A <;>cases R <;>rfl
  | [u],_=>cases F <;>cases I <;>cases O <;>cases B <;>cases A <;>cases R <;>rfl
  | [u,v],hE=>
   have e:=hE u (by simp) v
   simp only [List.getD,qf,List.length_nil,Int.toNat_zero,List.getElem?_cons_zero,List.getElem?_cons_succ,Option.getD,show Int.toNat 1=1 from rfl,z3p]
   simp only [e];generalize decide (u=v)=E;cases F <;>cases I <;>cases O <;>cases B <;>cases A <;>cases R <;>rfl
  | u::v::w::l,_=>
   have e:((Int.ofNat (u::v::w::l).length)==(2:Int))=false:=by rw [beq_eq_false_iff_ne]; simp; omega
   simp only [e];cases F <;>cases I <;>cases O <;>cases B <;>cases A <;>cases R <;>rfl
 by_cases h2:k=2
 ·subst h2
  match l with
  | []=>cases F <;>cases I <;>cases O <;>cases B <;>cases A <;>cases R <;>rfl
  | [u]=>
   simp only [List.getD,qf,List.length_nil,Int.toNat_zero,List.getElem?_cons_zero,Option.getD,zGh,zTo,z42];generalize isC u=E;generalize isU u=E';cases F <;>cases I <;>cases O <;>cases B <;>cases A <;>cases R <;>cases E <;>cases E' <;>rfl
  | u::v::l=>
   simp only [len2];cases F <;>cases I <;>cases O <;>cases B <;>cases A <;>cases R <;>rfl
 by_cases h3:k=3
 ·subst h3
  match l,hC with
  | [],_=>cases F <;>cases I <;>cases O <;>cases B <;>cases A <;>cases R <;>rfl
  | [u],hC=>
   have e:=hC u (by simp)
   simp only [List.getD,qf,List.length_nil,Int.toNat_zero,List.getElem?_cons_zero,Option.getD,zGh];simp only [e];generalize hasC u=E;cases F <;>cases I <;>cases O <;>cases B <;>cases A <;>cases R <;>cases E <;>rfl
  | u::v::l,_=>
   simp only [len2];cases F <;>cases I <;>cases O <;>cases B <;>cases A <;>cases R <;>rfl
 by_cases h4:k=4
 ·subst h4;simp only [show ((Int.ofNat l.length)==(0:Int))=(l.length==0) from zxa l.length 0]
  generalize (l.length==0)=L;cases A <;>cases W <;>cases L <;>cases J <;>cases S <;>cases K <;>cases R <;>rfl
 simp only [beqd,h0,h1,h2,h3,h4,decide_false,if_false,cond_false];cases F <;>cases I <;>cases O <;>cases B <;>cases A <;>cases R <;>rfl
end
section
variable (V:yC→Bool) (g:yC→Bool×Bool)
theorem zbgb (x:Atom) (hl:x.Args.length≤1000000) (hg:∀ a∈x.Args,g a=(true,V a)) (n:Nat) (hn:x.Args.length<n):zw1 g n 0 x=(true,bif zri V x.Args then .inr x else .inl false):=by
 have:=zeh (W:=zwA g) (z:=.inl default) x.Args.length (fun i=>((),(i:Int),())) (fun _=>(x,())) (fun i=>(fun a:yC=>V a&& !(a.length==0)) (x.Args.getD i default)) (.inl false) (.inr x)
  (fun i hi H K D=>by
   show (zlE g i x).ev H K D=_;unfold zlE;have hL:decide ((i:Int)<Int.ofNat x.Args.length)=true:=by simp [hi]
   simp only [Wy.ev_i,Wy.ev_k,Wy.ev_h,Wy.ev_bn,Wy.ev_d,hL,ze8,Bool.and_self,cond_true,Int.toNat_natCast,hg _ (zt hi)];rw [zQ (by omega),show (Int.ofNat (x.Args.getD i default).length==(0:Int))=((x.Args.getD i default).length==0) from zxa _ 0]
   cases V (x.Args.getD i default) <;>cases ((x.Args.getD i default).length==0) <;>rfl)
  (fun H K D=>by
   show (zlE g x.Args.length x).ev H K D=_;unfold zlE;have hL:decide ((x.Args.length:Int)<Int.ofNat x.Args.length)=false:=by simp
   simp only [Wy.ev_i,Wy.ev_k,hL,cond_false]) n hn
 rw [zz0 (fun a:yC=>V a&& !(a.length==0))] at this
 exact this
theorem z6F {τ:Type} [Inhabited τ] (l:List τ) (i:Nat) (h:i<l.length):List.take 1 (List.drop i l)=[l.getD i default]:=by
 rw [zbs h]; rfl
theorem zbdB (x y:TT):cmpL [x] [y]=cmpT x y:=by
 simp only [cmpL];split
 ·rename_i h; exact h.symm
 ·rfl
theorem zbfb (x:Atom) {d:Nat} (hx:zcV (zo d) x) (hd:d≤99) (hg:∀ a∈x.Items,g a.Ann=(true,V a.Ann)) (n:Nat) (hn:x.Items.length<n):zCS g n 0 x=(true,bif zCK V x.Items&&srtW x.Items then .inr () else .inl false):=by
 have hl:x.Items.length≤1000000:=hx.1.2.1
 have:=zeh (W:=zvD g) (z:=.inl default) x.Items.length (fun i=>((),(i:Int),())) (fun _=>(x,())) (fun i=>(fun w:Weighted=>V w.Ann&& !(w.Ann.length==0)) (x.Items.getD i default)&&srtI x.Items i) (.inl false) (.inr ())
  (fun i hi H K D=>by
   show (zj7 g i x).ev H K D=_;unfold zj7;have hL:decide ((i:Int)<Int.ofNat x.Items.length)=true:=by simp [hi]
   simp only [Wy.ev_i,Wy.ev_k,Wy.ev_h,Wy.ev_bn,Wy.ev_d,hL,ze8,Bool.and_self,cond_true,Int.toNat_natCast,hg _ (zt hi)];rw [zQ (by omega),show (Int.ofNat (x.Items.getD i default).Ann.length==(0:Int))=((x.Items.getD i default).Ann.length==0) from zxa _ 0]
   cases V (x.Items.getD i default).Ann <;>cases ((x.Items.getD i default).Ann.length==0) <;>try rfl
   simp only [cond_true,cond_false,Bool.not_true,Bool.not_false,Bool.and_self,Bool.true_and];cases i with
   | zero=>rfl
   | succ i=>
    have hi':i<x.Items.length:=by omega
    have hw:IntKind.i64.wrap (((i+1:Nat):Int) - 1)=(i:Int):=by rw [zzG (by omega) (by omega)]; rfl
    have e1:(decide ((0:Int)≤(i:Int))&&decide ((i:Int)≤((i+1:Nat):Int))&&decide (((i+1:Nat):Int)≤Int.ofNat x.Items.length))=true:=by
     simp; try omega
    have e2:(decide (((i+1:Nat):Int)≤((i+1+1:Nat):Int))&&decide (((i+1+1:Nat):Int)≤Int.ofNat x.Items.length))=true:=by
     simp; try omega
    have e3:decide (((i+1:Nat):Int)>0)=true:=by simp; try omega
    simp only [hw,e1,e2,e3,cond_true,Bool.true_and,Int.toNat_natCast,show i+1 - i=1 by omega,show i+1+1 - (i+1)=1 by omega,z6F _ _ hi,z6F _ _ hi']
    rw [zC3 (d:=d) (by simp) (fun w hw=>by
     rw [qh] at hw; subst hw; exact (hx.2.2 _ (zt hi')).2) hd,zmX,zmX]
    simp only [List.map,zbdB,cond_true,srtI,show i+1 - 1=i from rfl]
    have e4:decide (i+1=0)=false:=by simp
    rw [e4,Bool.false_or];generalize cmpT (zbc (x.Items.getD i default)) (zbc (x.Items.getD (i+1) default))=z;by_cases hz:z>0
    ·have:¬ z≤0:=by omega
     simp only [hz,this,decide_true,decide_false,cond_true,cond_false]
    ·have:z≤0:=by omega
     simp only [hz,this,decide_true,decide_false,cond_true,cond_false])
  (fun H K D=>by
   show (zj7 g x.Items.length x).ev H K D=_;unfold zj7;have hL:decide ((x.Items.length:Int)<Int.ofNat x.Items.length)=false:=by simp
   simp only [Wy.ev_i,Wy.ev_k,hL,cond_false]) n hn
 rw [z6M (fun i=>(fun w:Weighted=>V w.Ann&& !(w.Ann.length==0)) (x.Items.getD i default)),zz0 (fun w:Weighted=>V w.Ann&& !(w.Ann.length==0))] at this
 exact this
theorem zXw {A ρ:Type} (s:A) (k:A→Wy0 ρ) (z:ρ):(Wy.bn (true,s) k).fin z=(k s).fin z:=rfl
theorem z2K (x:Atom) {d:Nat} (hx:zcV (zo d) x) (hd:d≤99) (h10:x.Items.length≤1024) (hV:∀ a,V a=true→isB a=isU a) (hgA:∀ a∈x.Args,g a=(true,V a)) (hgI:∀ a∈x.Items,g a.Ann=(true,V a.Ann)):
  zoW g x=(true,zej V x):=by
 have hS:=fun n hn=>zbfb V g x hx hd hgI n hn
 have hA:=fun n hn=>zbgb V g x hx.1.1 hgA n hn
 have hF:=z7k x.Func x.Items x.Op x.Bound hx.1.2.1;have hE:∀ a∈x.Args,∀ b,ztg a b=(true,decide (a=b)):=fun a ha b=>zTj (hx.2.1 a ha) (by omega) b
 have hC:∀ a∈x.Args,ziD a=(true,hasC a):=fun a ha=>zBm a (by
  have:=hx.2.1 a ha;cases d with
  | zero=>exact this.elim
  | succ d=>have:=this.1; omega)
 have hP:=zbde x;unfold zoW zEQ zej;obtain ⟨s,hs1,hs2⟩:∃ s,zw1 g (Int.toNat (0:Int)+x.Args.length+x.Items.length+(1:Nat)) 0 x=(true,s)∧s=bif zri V x.Args then .inr x else .inl false:=⟨_,hA _ (by omega),rfl⟩
 rw [Atom.eta,hP,hs1];simp only [Wy.fin_i,Wy.fin_k,zXw];simp only [Wy.fin_i,Wy.fin_k,Wy.fin_bn,cond_true];rw [show (x.Row.Table==(0:Int)&&(x.Row.Seq==(0:Int)&&true))=rz x.Row from rfl]
 have b0:(x.Kind==(0:Int))=decide (x.Kind=0):=beqd _ _;have b1:(x.Kind==(1:Int))=decide (x.Kind=1):=beqd _ _;have b2:(x.Kind==(2:Int))=decide (x.Kind=2):=beqd _ _;have b3:(x.Kind==(3:Int))=decide (x.Kind=3):=beqd _ _;have b4:(x.Kind==(4:Int))=decide (x.Kind=4):=beqd _ _;by_cases h0:x.Kind=0
 ·rw [b0];simp only [h0,decide_true,cond_true,if_true];rw [show (Int.ofNat x.Args.length==(0:Int))=(x.Args.length==0) from zxa _ 0]
  unfold zAK
  match hl:x.Args with
  | []=>cases decide (x.Row.Table≥1) <;>cases decide (x.Row.Seq≥1) <;>cases plA x <;>rfl
  | u::l=>cases decide (x.Row.Table≥1) <;>cases decide (x.Row.Seq≥1) <;>cases plA x <;>cases zri V (u::l) <;>rfl
 rw [b0];simp only [h0,decide_false,cond_false,if_false];cases hA:zri V x.Args with
 | false=>rw [hs2,hA]; cases rz x.Row <;>rfl
 | true=>
 rw [hA,cond_true] at hs2;have hy:getR s=x:=by rw [hs2]; rfl
 have hy2:isL s=false:=by rw [hs2]; rfl
 rw [hy2];generalize getR s=y at hy ⊢;subst hy;cases rz y.Row with
 | false=>rfl
 | true=>
 simp only [Bool.not_true,cond_false,cond_true,isL,getR,Bool.true_and,Atom.eta,hP,hF,b1,b2,b3,b4];by_cases h1:y.Kind=1
 ·simp only [h1,decide_true,cond_true,if_true]
  match hl:y.Args with
  | []=>cases plA y <;>rfl
  | [u]=>cases plA y <;>rfl
  | [u,v]=>
   have e:=hE u (by rw [hl]; simp) v
   simp only [List.getD,qf,List.length_nil,Int.toNat_zero,List.getElem?_cons_zero,List.getElem?_cons_succ,Option.getD,show Int.toNat 1=1 from rfl,z3p]
   simp only [e];generalize decide (u=v)=E;cases plA y <;>rfl
  | u::v::w::l=>
   have e:((Int.ofNat (u::v::w::l).length)==(2:Int))=false:=by rw [beq_eq_false_iff_ne]; simp; omega
   simp only [e];cases plA y <;>rfl
 simp only [h1,decide_false,cond_false,if_false];by_cases h2:y.Kind=2
 ·simp only [h2,decide_true,cond_true,if_true]
  match hl:y.Args with
  | []=>cases plA y <;>rfl
  | [u]=>
   have e:=hC u (by rw [hl]; simp)
   have eV:V u=true:=by
    rw [hl] at hA;unfold zri at hA;simp at hA;exact hA.1
   simp only [List.getD,qf,List.length_nil,Int.toNat_zero,List.getElem?_cons_zero,Option.getD,zGh,zNT,e,hV u eV]
   match u with
   | []=>cases plA y <;>rfl
   | [t]=>
    have e1:hasC [t]=(t.Factors.length==0):=by simp [hasC]
    have e2:isC [t]=(t.Factors.length==0):=rfl;rw [e1,e2];cases plA y <;>cases (t.Factors.length==0) <;>cases isU [t] <;>rfl
   | t::s::r=>
    simp only [len2];cases plA y <;>rfl
  | u::v::l=>
   simp only [len2];cases plA y <;>rfl
 simp only [h2,decide_false,cond_false,if_false];by_cases h3:y.Kind=3
 ·simp only [h3,decide_true,cond_true,if_true]
  match hl:y.Args with
  | []=>cases plA y <;>rfl
  | [u]=>
   have e:=hC u (by rw [hl]; simp)
   simp only [List.getD,qf,List.length_nil,Int.toNat_zero,List.getElem?_cons_zero,Option.getD,zGh];simp only [e];cases plA y <;>cases hasC u <;>rfl
  | u::v::l=>
   simp only [len2];cases plA y <;>rfl
 simp only [h3,decide_false,cond_false,if_false];by_cases h4:y.Kind=4
 ·have e10:decide (Int.ofNat y.Items.length>(1024:Int))=false:=by simp; omega
  rw [hS _ (by omega)]
  rw [e10];simp only [h4,decide_true,cond_true,if_true,cond_false];rw [show (Int.ofNat y.Args.length != (0:Int))= !(y.Args.length==0) from congrArg not (zxa y.Args.length 0),show (Int.ofNat y.Items.length==(0:Int))=(y.Items.length==0) from zxa y.Items.length 0]
  have e11:decide (0<y.Items.length)= !(y.Items.length==0):=by
   rw [beqn];by_cases h:y.Items.length=0
   ·simp [h]
   ·have:0<y.Items.length:=by omega
    simp [h,this]
  rw [e11];cases (y.Args.length==0) <;>cases (y.Items.length==0) <;>cases fitK y.Func y.Items y.Op y.Bound <;>cases zCK V y.Items <;>cases srtW y.Items <;>rfl
 simp only [h4,decide_false,cond_false,if_false]
end
section
variable (V:yC→Bool) (vat:Atom→Bool)
theorem V_9 (g:Atom→Bool×Bool) (a t10:yC) (t11 t12:Int) (t:Term) {d:Nat} (ht:zcb (zo d) t.Factors) (hd:d≤99) (hg:∀ f∈t.Factors,g f.Atom=(true,vat f.Atom)) (n:Nat) (hn:t.Factors.length<n):
  zu7 g n a t10 t11 t12 t.Factors t.Factors.length 0 t=(true,bif okF vat t.Factors then .inr (a,t10,t11,t12) else .inl false):=by
 have hl:=ht.1
 exact zeh (W:=zvN g) (z:=.inl default) t.Factors.length (fun k=>(a,(),t10,t11,t12,t.Factors,(t.Factors.length:Int),(k:Int),())) (fun _=>(t,())) (chkF vat t.Factors) (.inl false) (.inr (a,t10,t11,t12))
  (fun k hk H K D=>by
   show (zkc g a t10 t11 t12 t.Factors t.Factors.length k t).ev H K D=_;unfold zkc chkF
   have hgt:decide ((k:Int)>0)= !decide (k=0):=by
    by_cases h:k=0
    ·subst h; rfl
    ·have:0<k:=by omega
     simp [h,this]
   simp only [Atom.eta,Wy.ev_i,Wy.ev_k,Wy.ev_h,Wy.ev_bn,Wy.ev_d,tT,hk,z3R,hg _ (zt hk),hgt];rw [zQ (by omega)]
   have e1:decide ((t.Factors.getD k default).Exp<1)= !decide (1≤(t.Factors.getD k default).Exp):=by
    by_cases h:1≤(t.Factors.getD k default).Exp
    ·have:¬ (t.Factors.getD k default).Exp<1:=by omega
     simp only [h,this,decide_true,decide_false,Bool.not_true]
    ·have:(t.Factors.getD k default).Exp<1:=by omega
     simp only [h,this,decide_true,decide_false,Bool.not_false]
   rw [e1];generalize decide (1≤(t.Factors.getD k default).Exp)=E1;generalize ((t.Factors.getD k default).Exp != 1)=E2;generalize ((t.Factors.getD k default).Atom.Kind==3||(t.Factors.getD k default).Atom.Kind==4)=E3;by_cases h0:k=0
   ·simp only [h0,decide_true,Bool.not_true,cond_false,Bool.true_or,Bool.and_true];cases E1 <;>cases E2 <;>cases E3 <;>cases vat (t.Factors.getD 0 default).Atom <;>rfl
   ·have hp:IntKind.i64.wrap ((k:Int) - 1)=((k - 1:Nat):Int):=zzG (by omega) (by omega)
    have hk':k - 1<t.Factors.length:=by omega
    have hfx:zcV (zo d) (t.Factors.getD (k - 1) default).Atom:=ht.2 _ (zt hk')
    have e2:∀ z:Int,decide (z≥0)= !decide (z<0):=fun z=>by
     by_cases h:z<0
     ·have:¬ z≥0:=by omega
      simp [h,this]
     ·have:z≥0:=by omega
      simp [h,this]
    simp only [h0,hp,tT,hk',zxO hfx hd,e2,Bool.false_or];generalize decide (cmpT (zdl (t.Factors.getD (k - 1) default).Atom) (zdl (t.Factors.getD k default).Atom)<0)=E4;cases E1 <;>cases E2 <;>cases E3 <;>cases E4 <;>cases vat (t.Factors.getD k default).Atom <;>rfl)
  (fun H K D=>by
   show (zkc g a t10 t11 t12 t.Factors t.Factors.length t.Factors.length t).ev H K D=_;unfold zkc;simp only [Wy.ev_i,Wy.ev_k,tT,Nat.lt_irrefl]) n hn
theorem V_4 (g:Atom→Bool×Bool) (a:yC) {d:Nat} (h:zo (d+1) a) (hd:d≤99) (hg:∀ t∈a,∀ f∈t.Factors,g f.Atom=(true,vat f.Atom)) (n:Nat) (hn:a.length<n):
  zCH g n a a a.length 0=(true,bif allN (chkT vat a) a.length 0 then .inr () else .inl false):=by
 have hl:=h.1
 exact zeh (W:=zvw g) (z:=.inl default) a.length (fun k=>(a,a,(a.length:Int),(k:Int),())) (fun _=>()) (chkT vat a) (.inl false) (.inr ())
  (fun k hk H K D=>by
   show (zks g a a a.length k).ev H K D=_;unfold zks chkT;have ht:=h.2 _ (zt hk)
   have hgt:decide ((k:Int)>0)= !decide (k=0):=by
    by_cases h:k=0
    ·subst h; rfl
    ·have:0<k:=by omega
     simp [h,this]
   simp only [Atom.eta,Wy.ev_i,Wy.ev_k,Wy.ev_h,Wy.ev_bn,Wy.ev_d,tT,hk,hgt];rw [V_9 vat g a a a.length k _ ht hd (hg _ (zt hk)) _ (by omega)]
   have e1:decide ((a.getD k default).Coeff<1)= !decide (1≤(a.getD k default).Coeff):=by
    by_cases h:1≤(a.getD k default).Coeff
    ·have:¬ (a.getD k default).Coeff<1:=by omega
     simp only [h,this,decide_true,decide_false,Bool.not_true]
    ·have:(a.getD k default).Coeff<1:=by omega
     simp only [h,this,decide_true,decide_false,Bool.not_false]
   have e3:decide ((a.getD k default).Coeff>1152921504606846976)= !decide ((a.getD k default).Coeff≤1152921504606846976):=by
    by_cases h:(a.getD k default).Coeff≤1152921504606846976
    ·have:¬ (a.getD k default).Coeff>1152921504606846976:=by omega
     simp only [h,this,decide_true,decide_false,Bool.not_true]
    ·have:(a.getD k default).Coeff>1152921504606846976:=by omega
     simp only [h,this,decide_true,decide_false,Bool.not_false]
   rw [e1,e3];generalize decide (1≤(a.getD k default).Coeff)=E1;generalize decide ((a.getD k default).Coeff≤1152921504606846976)=E2;by_cases h0:k=0
   ·subst h0;simp only [decide_true,Bool.not_true,cond_false,Bool.true_or,Bool.and_true];cases okF vat (a.getD 0 default).Factors <;>cases E1 <;>cases E2 <;>try rfl
   ·have hp:IntKind.i64.wrap ((k:Int) - 1)=((k - 1:Nat):Int):=zzG (by omega) (by omega)
    have hk':k - 1<a.length:=by omega
    have hfx:zcb (zo d) (a.getD (k - 1) default).Factors:=h.2 _ (zt hk')
    have e2:∀ z:Int,decide (z≥0)= !decide (z<0):=fun z=>by
     by_cases h:z<0
     ·have:¬ z≥0:=by omega
      simp [h,this]
     ·have:z≥0:=by omega
      simp [h,this]
    simp only [h0,hp,tT,hk',zxy hfx hd,e2,Bool.false_or];generalize decide (cmpL (zbz (a.getD (k - 1) default).Factors) (zbz (a.getD k default).Factors)<0)=E4;cases okF vat (a.getD k default).Factors <;>cases E1 <;>cases E2 <;>cases E4 <;>try rfl
    simp only [cond_true,cond_false,Bool.not_true,isL,getR,Bool.and_self];rw [zQ (by omega),decide_eq_false (show ¬ ((k - 1:Nat):Int)<0 by omega)]; rfl)
  (fun H K D=>by
   show (zks g a a a.length a.length).ev H K D=_;unfold zks;simp only [Wy.ev_i,Wy.ev_k,tT,Nat.lt_irrefl]) n hn
theorem zbaG (g:Atom→Bool×Bool) (a:yC) {d:Nat} (h:zo (d+1) a) (hd:d≤99) (hs:zM a≤4611686018427387904) (hg:∀ t∈a,∀ f∈t.Factors,g f.Atom=(true,vat f.Atom)):zm5 g a=(true,vAnn vat a):=by
 unfold zm5 zEl vAnn;have:=V_4 vat g a h hd hg (a.length+a.length+(Int.ofNat a.length).toNat +Int.toNat (0:Int)+(1:Nat)) (by omega)
 rw [show Int.ofNat a.length=(a.length:Int) from rfl] at *
 simp only [Wy.fin_i,Wy.fin_k,Wy.fin_bn,z5p h (by omega) hs,this,cond_true]
 cases zeW a <;>cases allN (chkT vat a) a.length 0 <;>rfl
theorem zbf1 (g:Atom→Bool×Bool) (a:yC) (i:Int) (t:Term) {d:Nat} (ht:zcb (zo d) t.Factors) (hd:d≤99) (hg:∀ f∈t.Factors,g f.Atom=(true,vat f.Atom)) (hk:∀ x,vat x=true→0≤x.Kind∧x.Kind≤4) (n:Nat) (hn:t.Factors.length<n):
  zBA g n a i 0 t=(true,bif okF vat t.Factors then .inr (a,i) else .inl false):=by
 have hl:=ht.1
 exact zeh (W:=zBy g) (z:=.inl default) t.Factors.length (fun k=>(a,i,(),(k:Int),())) (fun _=>(t,())) (chkF vat t.Factors) (.inl false) (.inr (a,i))
  (fun k hk1 H K D=>by
   show (zoD g a i k t).ev H K D=_;unfold zoD chkF
   have hgt:decide ((k:Int)>0)= !decide (k=0):=by
    by_cases h:k=0
    ·subst h; rfl
    ·have:0<k:=by omega
     simp [h,this]
   simp only [Atom.eta,Wy.ev_i,Wy.ev_k,Wy.ev_h,Wy.ev_bn,Wy.ev_d,tT,hk1,hg _ (zt hk1),hgt];rw [zQ (by omega)]
   have hk2:=hk (t.Factors.getD k default).Atom
   have e1:decide ((t.Factors.getD k default).Exp<1)= !decide (1≤(t.Factors.getD k default).Exp):=by
    by_cases h:1≤(t.Factors.getD k default).Exp
    ·have:¬ (t.Factors.getD k default).Exp<1:=by omega
     simp only [h,this,decide_true,decide_false,Bool.not_true]
    ·have:(t.Factors.getD k default).Exp<1:=by omega
     simp only [h,this,decide_true,decide_false,Bool.not_false]
   rw [e1];by_cases hx1:1≤(t.Factors.getD k default).Exp
   rotate_left
   ·simp only [hx1,decide_false,Bool.not_false,cond_true,Bool.false_and,cond_false]
   cases hv:vat (t.Factors.getD k default).Atom with
   | false=>
    rw [Bool.and_false];cases decide (1≤(t.Factors.getD k default).Exp) <;>cases decide ((t.Factors.getD k default).Exp>1) <;>cases decide ((t.Factors.getD k default).Atom.Kind≥3) <;>rfl
   | true=>
   obtain ⟨k1,k2⟩:=hk2 hv
   have e5:((t.Factors.getD k default).Atom.Kind==3||(t.Factors.getD k default).Atom.Kind==4)=decide ((t.Factors.getD k default).Atom.Kind≥3):=by
    rw [beqd,beqd, ← Bool.decide_or];congr 1;apply propext; omega
   have e6:((t.Factors.getD k default).Exp != 1)=decide ((t.Factors.getD k default).Exp>1):=by
    rw [bne0, ← decide_not];congr 1;apply propext; omega
   rw [e5,e6];simp only [hx1,decide_true,Bool.not_true,cond_false,Bool.true_and];generalize decide ((t.Factors.getD k default).Exp>1)=E2;generalize decide ((t.Factors.getD k default).Atom.Kind≥3)=E3;by_cases h0:k=0
   ·simp only [h0,decide_true,Bool.not_true,cond_false,Bool.true_or,Bool.and_true];cases E2 <;>cases E3 <;>rfl
   ·have hp:IntKind.i64.wrap ((k:Int) - 1)=((k - 1:Nat):Int):=zzG (by omega) (by omega)
    have hk':k - 1<t.Factors.length:=by omega
    have hfx:zcV (zo d) (t.Factors.getD (k - 1) default).Atom:=ht.2 _ (zt hk')
    have e2:∀ z:Int,decide (z≥0)= !decide (z<0):=fun z=>by
     by_cases h:z<0
     ·have:¬ z≥0:=by omega
      simp [h,this]
     ·have:z≥0:=by omega
      simp [h,this]
    simp only [h0,hp,tT,hk',zpk hfx hd,e2,Bool.false_or];generalize decide (cmpT (zdl (t.Factors.getD (k - 1) default).Atom) (zdl (t.Factors.getD k default).Atom)<0)=E4;cases E2 <;>cases E3 <;>cases E4 <;>rfl)
  (fun H K D=>by
   show (zoD g a i t.Factors.length t).ev H K D=_;unfold zoD;simp only [Wy.ev_i,Wy.ev_k,tT,Nat.lt_irrefl]) n hn
theorem RV_4 (g:Atom→Bool×Bool) (a:yC) {d:Nat} (h:zo (d+1) a) (hd:d≤99) (hg:∀ t∈a,∀ f∈t.Factors,g f.Atom=(true,vat f.Atom)) (hk:∀ x,vat x=true→0≤x.Kind∧x.Kind≤4) (n:Nat) (hn:a.length<n):
  zLO g n a 0=(true,bif allN (chkT vat a) a.length 0 then .inr () else .inl false):=by
 have hl:=h.1
 exact zeh (W:=zCu g) (z:=.inl default) a.length (fun k=>(a,(k:Int),())) (fun _=>()) (chkT vat a) (.inl false) (.inr ())
  (fun k hk1 H K D=>by
   show (zqT g a k).ev H K D=_;unfold zqT chkT;have ht:=h.2 _ (zt hk1)
   have hgt:decide ((k:Int)>0)= !decide (k=0):=by
    by_cases h:k=0
    ·subst h; rfl
    ·have:0<k:=by omega
     simp [h,this]
   simp only [Atom.eta,Wy.ev_i,Wy.ev_k,Wy.ev_h,Wy.ev_bn,Wy.ev_d,tT,hk1,hgt];rw [zbf1 vat g a k _ ht hd (hg _ (zt hk1)) hk _ (by omega)]
   have e1:decide ((a.getD k default).Coeff<1)= !decide (1≤(a.getD k default).Coeff):=by
    by_cases h:1≤(a.getD k default).Coeff
    ·have:¬ (a.getD k default).Coeff<1:=by omega
     simp only [h,this,decide_true,decide_false,Bool.not_true]
    ·have:(a.getD k default).Coeff<1:=by omega
     simp only [h,this,decide_true,decide_false,Bool.not_false]
   have e3:decide ((a.getD k default).Coeff>1152921504606846976)= !decide ((a.getD k default).Coeff≤1152921504606846976):=by
    by_cases h:(a.getD k default).Coeff≤1152921504606846976
    ·have:¬ (a.getD k default).Coeff>1152921504606846976:=by omega
     simp only [h,this,decide_true,decide_false,Bool.not_true]
    ·have:(a.getD k default).Coeff>1152921504606846976:=by omega
     simp only [h,this,decide_true,decide_false,Bool.not_false]
   rw [e1,e3];generalize decide (1≤(a.getD k default).Coeff)=E1;generalize decide ((a.getD k default).Coeff≤1152921504606846976)=E2;by_cases h0:k=0
   ·subst h0;simp only [decide_true,Bool.not_true,cond_false,Bool.true_or,Bool.and_true];cases okF vat (a.getD 0 default).Factors <;>cases E1 <;>cases E2 <;>try rfl
   ·have hp:IntKind.i64.wrap ((k:Int) - 1)=((k - 1:Nat):Int):=zzG (by omega) (by omega)
    have hk':k - 1<a.length:=by omega
    have hfx:zcb (zo d) (a.getD (k - 1) default).Factors:=h.2 _ (zt hk')
    have e2:∀ z:Int,decide (z≥0)= !decide (z<0):=fun z=>by
     by_cases h:z<0
     ·have:¬ z≥0:=by omega
      simp [h,this]
     ·have:z≥0:=by omega
      simp [h,this]
    simp only [h0,hp,tT,hk',zss hfx hd,e2,Bool.false_or];generalize decide (cmpL (zbz (a.getD (k - 1) default).Factors) (zbz (a.getD k default).Factors)<0)=E4;cases okF vat (a.getD k default).Factors <;>cases E1 <;>cases E2 <;>cases E4 <;>try rfl
    simp only [cond_true,cond_false,Bool.not_true,isL,getR,Bool.and_self];rw [zQ (by omega),decide_eq_false (show ¬ ((k - 1:Nat):Int)<0 by omega)]; rfl)
  (fun H K D=>by
   show (zqT g a a.length).ev H K D=_;unfold zqT;simp only [Wy.ev_i,Wy.ev_k,tT,Nat.lt_irrefl]) n hn
theorem z80 (g:Atom→Bool×Bool) (a:yC) {d:Nat} (h:zo (d+1) a) (hd:d≤99) (hs:zM a≤4611686018427387904) (hg:zeW a=true→∀ t∈a,∀ f∈t.Factors,g f.Atom=(true,vat f.Atom)) (hk:∀ x,vat x=true→0≤x.Kind∧x.Kind≤4):zxT g a=(true,vAnn vat a):=by
 unfold zxT zNz vAnn;rw [Wy.fin_bn,z9H h (by omega) hs]
 cases hw:zeW a with
 | false=>rfl
 | true=>
  have:=RV_4 vat g a h hd (hg hw) hk ((a.length+Int.toNat (0:Int)+(1:Nat))+szTs a) (by omega)
  simp only [Wy.fin_i,Wy.fin_k,Wy.fin_bn,this,cond_true];cases allN (chkT vat a) a.length 0 <;>rfl
end
theorem zZE {l:yA} {a:yC} (h:a∈l):zM a≤ze9 l:=by
 induction l with
 | nil=>cases h
 | cons b r ih=>
  rw [zeU];rcases qd.1 h with rfl | h
  ·omega
  ·have:=ih h; omega
theorem zU3 {l:yE} {w:Weighted} (h:w∈l):zM w.Ann≤zdn l:=by
 induction l with
 | nil=>cases h
 | cons b r ih=>
  rw [zh6];rcases qd.1 h with rfl | h
  ·omega
  ·have:=ih h; omega
theorem zWj {m:Nat} {a:yC} (h:zbB m a=true):isB a=isU a:=by
 cases m with
 | zero=>cases h
 | succ m=>
 match a with
 | []=>rfl
 | [t]=>
  simp only [zbB,vAnn,qc] at h;have h1:=zeu.1 h.2 0 (by omega) (by simp)
  simp only [chkT,qc] at h1;have h2:=h1.2;obtain ⟨c,fs⟩:=t
  match fs with
  | []=>rfl
  | [f]=>
   have h3:=zeu.1 h2 0 (by omega) (by simp)
   simp only [chkF,qc] at h3;have h4:=zDF h3.2;simp only [List.getD_cons_zero] at h4;show (c==1&&(f.Exp==1&&decide (2≤f.Atom.Kind)))=(c==1&&(f.Exp==1&&(f.Atom.Kind==2||f.Atom.Kind==3||f.Atom.Kind==4)))
   have e:decide (2≤f.Atom.Kind)=(f.Atom.Kind==2||f.Atom.Kind==3||f.Atom.Kind==4):=by
    rw [beqd,beqd,beqd, ← Bool.decide_or, ← Bool.decide_or];congr 1;apply propext; omega
   rw [e]
  | f::f'::r=>rfl
 | t::u::r=>rfl
theorem zbfS (g) (l:yA):zcC g l=IG (fun (_:Unit) x=>g x) (l.length+(Int.ofNat l.length).toNat +Int.toNat (0:Int)+(1:Nat)) () l:=rfl
theorem zbgc (g) (l:yE):zdh g l=IG (fun (_:Unit) x=>g x) (l.length+(Int.ofNat l.length).toNat +Int.toNat (0:Int)+(1:Nat)) () l:=rfl
theorem zN0:∀ n,
  (∀ d m a,zo d a→10*d≤n→d≤m→d≤100→zM a≤4611686018427387904→zke n a=(true,zbB m a))∧
  (∀ d m x,zcV (zo d) x→10*d+9≤n→d≤m→d≤99→ze6 x≤4611686018427387904→zmS n x=(true,zej (zbB m) x))∧
  (∀ d m a,zo d a→10*d+6≤n→d≤m→d≤99→zM a≤4611686018427387904→zfd n a=(true, !(zbB m a&& !(a.length==0))))∧
  (∀ d m (w:Weighted),zo d w.Ann→10*d+6≤n→d≤m→d≤99→zM w.Ann≤4611686018427387904→zfc n w=(true, !(zbB m w.Ann&& !(w.Ann.length==0))))∧
  (∀ d m (l:yA),l.length≤1000000→(∀ a∈l,zo d a∧zM a≤4611686018427387904)→10*d+7≤n→d≤m→d≤99→zcD n l=(true,ixf (fun a=> !(zbB m a&& !(a.length==0))) l 0))∧
  (∀ d m (l:yA),l.length≤1000000→(∀ a∈l,zo d a∧zM a≤4611686018427387904)→10*d+8≤n→d≤m→d≤99→zcl n l=(true, !zri (zbB m) l))∧
  (∀ d m (l:yE),l.length≤1000000→(∀ a∈l,zo d a.Ann∧zM a.Ann≤4611686018427387904)→10*d+7≤n→d≤m→d≤99→zde n l=(true,ixf (fun a=> !(zbB m a.Ann&& !(a.Ann.length==0))) l 0))∧
  (∀ d m (l:yE),l.length≤1000000→(∀ a∈l,zo d a.Ann∧zM a.Ann≤4611686018427387904)→10*d+8≤n→d≤m→d≤99→zcH n l=(true, !zCK (zbB m) l))
 | 0=>by
  refine ⟨?_, ?_, ?_, ?_, ?_, ?_, ?_, ?_⟩
  ·intro d m a h hd; have:d=0:=by omega
   subst this; exact h.elim
  all_goals (intros; omega)
 | n+1=>by
  obtain ⟨h1,h2,h3,h4,h5,h6,h7,h8⟩:=zN0 n;refine ⟨?_, ?_, ?_, ?_, ?_, ?_, ?_, ?_⟩
  ·intro d m a h hd hm hd2 hs;cases d with
   | zero=>exact h.elim
   | succ d=>
    cases m with
    | zero=>omega
    | succ m=>
     rw [zQD]
     exact zbaG _ _ a h (by omega) hs fun t ht f hf=>h2 d m f.Atom ((h.2 t ht).2 f hf) (by omega) (by omega) (by omega) (by
      have:=z4h ht hf; rw [zg9]; omega)
  ·intro d m x h hd hm hd2 hs;rw [zJ8];rw [zg9] at hs
   exact z4n _ _ _ _ _ x h hd2 (h6 d m _ h.1.1 (fun a ha=>⟨h.2.1 a ha,by have:=zZE ha; omega⟩) (by omega) hm hd2)
    (h8 d m _ h.1.2.1 (fun a ha=>⟨(h.2.2 a ha).2,by have:=zU3 ha; omega⟩) (by omega) hm hd2)
  ·intro d m a h hd hm hd2 hs;rw [zFl];unfold zkO zwu;rw [Wy.fin_bn,h1 d m a h (by omega) hm (by omega) hs]
   simp only [cond_true,Wy.fin_i,Wy.fin_k,show (Int.ofNat a.length==(0:Int))=(a.length==0) from zxa a.length 0]
   cases zbB m a <;>simp
  ·intro d m a h hd hm hd2 hs;rw [zGe];unfold zkG zws;rw [Wy.fin_bn,h1 d m a.Ann h (by omega) hm (by omega) hs]
   simp only [cond_true,Wy.fin_i,Wy.fin_k,show (Int.ofNat a.Ann.length==(0:Int))=(a.Ann.length==0) from zxa a.Ann.length 0]
   cases zbB m a.Ann <;>simp
  ·intro d m l hl h hd hm hd2;rw [zmO,zbfS];exact zDT _ _ _ _ _ (by omega) (fun x hx=>h3 d m x (h x hx).1 (by omega) hm hd2 (h x hx).2) (by omega)
  ·intro d m l hl h hd hm hd2;rw [zlT];unfold zco zfj;rw [zh3 (h5 d m l hl h (by omega) hm hd2)]
   simp [zri,List.all_eq_not_any_not]
  ·intro d m l hl h hd hm hd2;rw [zo3,zbgc];exact zDT _ _ _ _ _ (by omega) (fun x hx=>h4 d m x (h x hx).1 (by omega) hm hd2 (h x hx).2) (by omega)
  ·intro d m l hl h hd hm hd2;rw [znC];unfold zcI zgd;rw [zh3 (h7 d m l hl h (by omega) hm hd2)]
   simp [zCK,List.all_eq_not_any_not]
theorem z85 {a:yC} (h:zeW a=true) {t:Term} (ht:t∈a) {f:Factor} (hf:f∈t.Factors):f.Atom.Items.length≤1024∧f.Exp≤64∧t.Factors.length≤64:=by
 simp only [zeW,qc,List.all_eq_true] at h;have:=h.2 t ht;simp only [withF,Bool.not_eq_true',Bool.or_eq_false_iff,decide_eq_false_iff_not,List.any_eq_false] at this;have h2:=this.2 f hf;simp at h2;omega
theorem z1P:∀ n,
  (∀ d m a,zo d a→3*d≤n→d≤m→d≤100→zM a≤4611686018427387904→zx6 n a=(true,zbB m a))∧
  (∀ d m x,zcV (zo d) x→3*d+2≤n→d≤m→d≤99→ze6 x≤4611686018427387904→x.Items.length≤1024→zuU n x=(true,zej (zbB m) x))
 | 0=>by
  refine ⟨?_, ?_⟩
  ·intro d m a h hd; have:d=0:=by omega
   subst this; exact h.elim
  ·intros; omega
 | n+1=>by
  obtain ⟨h1,h2⟩:=z1P n;refine ⟨?_, ?_⟩
  ·intro d m a h hd hm hd2 hs;cases d with
   | zero=>exact h.elim
   | succ d=>
    cases m with
    | zero=>omega
    | succ m=>
     rw [zZ7]
     exact z80 _ _ a h (by omega) hs (fun hw t ht f hf=>h2 d m f.Atom ((h.2 t ht).2 f hf) (by omega) (by omega) (by omega) (by
      have:=z4h ht hf; rw [zg9]; omega) (z85 hw ht hf).1) fun x hx=>zDF hx
  ·intro d m x h hd hm hd2 hs h10;rw [zRP];rw [zg9] at hs
   exact z2K _ _ x h hd2 h10 (fun a ha=>zWj ha) (fun a ha=>h1 d m a (h.2.1 a ha) (by omega) hm (by omega) (by have:=zZE ha; omega))
    fun a ha=>h1 d m a.Ann (h.2.2 a ha).2 (by omega) hm (by omega) (by have:=zU3 ha; omega)
def zC (a:yC):Bool:=zbB 100 a
theorem zNt {d:Nat} {a:yC} (h:zo d a) (hd:d≤100) (hs:zM a≤4611686018427387904):zbU a=(true,zC a):=(zN0 1000).1 d 100 a h (by omega) hd hd hs
theorem z2R {d:Nat} {a:yC} (h:zo d a) (hd:d≤100) (hs:zM a≤4611686018427387904):zeP a=(true,zC a):=(z1P 1000).1 d 100 a h (by omega) hd hd hs
theorem zPg {τ:Type} [Inhabited τ] {l:List τ} {x:τ} (h:x∈l):∃ i,i<l.length∧l.getD i default=x:=by
 obtain ⟨i,hi,e⟩:=List.mem_iff_getElem.1 h;exact ⟨i,hi,by rw [List.getD_eq_getElem?_getD,List.getElem?_eq_getElem hi]; exact e⟩
theorem zG9 {vat:Atom→Bool} {a:yC} (h:vAnn vat a=true):zeW a=true:=by
 simp only [vAnn,qc] at h; exact h.1
theorem zwv {vat:Atom→Bool} {a:yC} (h:vAnn vat a=true) {t:Term} (ht:t∈a):(1≤t.Coeff∧t.Coeff≤1152921504606846976)∧okF vat t.Factors=true:=by
 simp only [vAnn,qc] at h;obtain ⟨i,hi,rfl⟩:=zPg ht;have:=zeu.1 h.2 i (by omega) (by omega)
 simp only [chkT,qc,qe] at this;exact ⟨this.1.1,this.2⟩
theorem zpE {vat:Atom→Bool} {fs:yD} (h:okF vat fs=true) {f:Factor} (hf:f∈fs):(1≤f.Exp∧(f.Atom.Kind=3∨f.Atom.Kind=4→f.Exp=1))∧vat f.Atom=true:=by
 obtain ⟨i,hi,rfl⟩:=zPg hf;have:=zeu.1 h i (by omega) (by omega)
 simp only [chkF,qc,qe] at this;refine ⟨⟨this.1.1.1,fun hk=> ?_⟩,this.2⟩
 have h2:=this.1.1.2;rcases hk with hk | hk
 ·rw [hk] at h2; simpa using h2
 ·rw [hk] at h2; simpa using h2
theorem zbdG {b:Value} (h:bz b=true):b=⟨0,0,ByteArray.mk #[]⟩:=by
 unfold bz at h;rw [zWL] at h;simp only [qc,beq_iff_eq,qe,and_true] at h;obtain ⟨k,i,t⟩:=b;simp only at h;obtain ⟨rfl,rfl,rfl⟩:=h;rfl
theorem zwt {v:Value} (h:valV v=true):v.Text.size≤255:=by
 simp only [valV,Bool.or_eq_true,qc,beq_iff_eq,qe] at h;omega
theorem zRT {x:Atom} (h:plA x=true):x.Func=0∧x.Items=[]∧x.Op=0∧x.Bound=⟨0,0,ByteArray.mk #[]⟩:=by
 simp only [plA,qc,beq_iff_eq] at h;exact ⟨h.1.1.1,List.length_eq_zero_iff.1 h.1.1.2,h.1.2,zbdG h.2⟩
theorem zbd2 {r:RowID} (h:rz r=true):r=⟨0,0⟩:=by
 simp only [rz,qc,beq_iff_eq,and_true] at h;obtain ⟨t,s⟩:=r;simp only at h;obtain ⟨rfl,rfl⟩:=h; rfl
inductive VA (V:yC→Bool):Atom→Prop
 | var (r:RowID) (h:zAK r=true):VA V ⟨0,r,[],0,[],0,⟨0,0,ByteArray.mk #[]⟩⟩
 | mon (a b:yC) (ha:V a=true) (hb:V b=true) (ha0:a≠[]) (hb0:b≠[]) (h:a≠b):VA V ⟨1,⟨0,0⟩,[a,b],0,[],0,⟨0,0,ByteArray.mk #[]⟩⟩
 | del (a:yC) (ha:V a=true) (ha0:a≠[]) (h:isC a=false) (h':isU a=false):VA V ⟨2,⟨0,0⟩,[a],0,[],0,⟨0,0,ByteArray.mk #[]⟩⟩
 | abs (a:yC) (ha:V a=true) (ha0:a≠[]) (h:hasC a=false):VA V ⟨3,⟨0,0⟩,[a],0,[],0,⟨0,0,ByteArray.mk #[]⟩⟩
 | tst (f:Int) (l:yE) (o:Int) (b:Value) (hl:l≠[]) (hi:∀ w∈l,V w.Ann=true∧w.Ann≠[]) (hs:srtW l=true) (hf:fitK f l o b=true):VA V ⟨4,⟨0,0⟩,[],f,l,o,b⟩
theorem zdG {V:yC→Bool} {x:Atom}:zej V x=true↔VA V x:=by
 constructor
 ·intro h;have hk:=zDF h;obtain ⟨k,r,l,f,its,o,b⟩:=x;simp only at hk;unfold zej at h;simp only [qc] at h;obtain ⟨h1,h2⟩:=h
  have ha:∀ a∈l,V a=true∧a≠[]:=fun a ha=>by
   have:=List.all_eq_true.1 h1 a ha;simp only [qc,Bool.not_eq_true',beq_eq_false_iff_ne] at this;exact ⟨this.1,fun e=>this.2 (by rw [e]; rfl)⟩
  by_cases h0:k=0
  ·subst h0;simp only [if_true,qc,beq_iff_eq] at h2;obtain ⟨e1,e2,e3,e4⟩:=zRT h2.1.1;simp only at e1 e2 e3 e4;subst e1 e2 e3 e4;obtain rfl:l=[]:=List.length_eq_zero_iff.1 h2.2;exact .var r h2.1.2
  simp only [h0,if_false,qc] at h2;obtain ⟨hr,h2⟩:=h2;have hr':=zbd2 hr;subst hr';by_cases h0':k=1
  ·subst h0';simp only [if_true,qc] at h2;obtain ⟨e1,e2,e3,e4⟩:=zRT h2.1;simp only at e1 e2 e3 e4;subst e1 e2 e3 e4
   match l,h2.2,ha with
   | [a,b],h3,ha=>exact .mon a b (ha a (by simp)).1 (ha b (by simp)).1 (ha a (by simp)).2 (ha b (by simp)).2 (by simpa [z3p] using h3)
  simp only [h0',if_false] at h2;by_cases h2':k=2
  ·subst h2';simp only [if_true,qc] at h2;obtain ⟨e1,e2,e3,e4⟩:=zRT h2.1;simp only at e1 e2 e3 e4;subst e1 e2 e3 e4
   match l,h2.2,ha with
   | [a],h3,ha=>
    simp only [zGh,qc,Bool.not_eq_true'] at h3;exact .del a (ha a (by simp)).1 (ha a (by simp)).2 h3.1 h3.2
  simp only [h2',if_false] at h2;by_cases h3':k=3
  ·subst h3';simp only [if_true,qc] at h2;obtain ⟨e1,e2,e3,e4⟩:=zRT h2.1;simp only at e1 e2 e3 e4;subst e1 e2 e3 e4
   match l,h2.2,ha with
   | [a],h3,ha=>
    simp only [zGh,Bool.not_eq_true'] at h3;exact .abs a (ha a (by simp)).1 (ha a (by simp)).2 h3
  simp only [h3',if_false] at h2;have h4':k=4:=by omega
  subst h4';simp only [if_true,qc,beq_iff_eq,qe] at h2;obtain ⟨⟨⟨⟨h3,h4⟩,h5⟩,h6⟩,h7⟩:=h2;obtain rfl:l=[]:=List.length_eq_zero_iff.1 h3
  exact .tst f its o b (fun e=>by rw [e] at h4; simp at h4) (fun w hw=>by
   have:=List.all_eq_true.1 h5 w hw;simp only [qc,Bool.not_eq_true',beq_eq_false_iff_ne] at this;exact ⟨this.1,fun e=>this.2 (by rw [e]; rfl)⟩) h6 h7
 ·intro h
  have ne:∀ a:yC,a≠[]→(a.length==0)=false:=fun a ha=>by
   rw [beq_eq_false_iff_ne]; exact fun e=>ha (List.length_eq_zero_iff.1 e)
  cases h with
  | var r h=>simp [zej,zri,plA,bz,h]
  | mon a b ha hb ha0 hb0 h=>simp [zej,zri,plA,bz,rz,z3p,ha,hb,ha0,hb0,h]
  | del a ha ha0 h h'=>simp [zej,zri,plA,bz,rz,zGh,ha,ha0,h,h']
  | abs a ha ha0 h=>simp [zej,zri,plA,bz,rz,zGh,ha,ha0,h]
  | tst f l o b hl hi hs hf=>
   have h1:zCK V l=true:=List.all_eq_true.2 fun w hw=>by rw [(hi w hw).1,ne _ (hi w hw).2]; rfl
   have h2:0<l.length:=by
    cases l with
    | nil=>exact absurd rfl hl
    | cons x r=>simp
   simp [zej,zri,rz,h1,hs,hf,h2]
theorem zwz {a:yC} (h:zeW a=true):a.length≤512∧zbn a≤8∧zM a≤4096∧∀ t∈a,t.Factors.length≤64∧∀ f∈t.Factors,f.Exp≤64∧f.Atom.Items.length≤1024:=by
 simp only [zeW,qc,List.all_eq_true,qe] at h;refine ⟨h.1.1.1,h.1.1.2,h.1.2,fun t ht=> ?_⟩
 have:=h.2 t ht;simp only [withF,Bool.not_eq_true',Bool.or_eq_false_iff,decide_eq_false_iff_not,List.any_eq_false] at this;refine ⟨by omega,fun f hf=> ?_⟩
 have h2:=this.2 f hf;simp at h2;omega
theorem z3g {a:yC} {t:Term} (h:t∈a):zdu t.Factors≤zbn a:=by
 induction a with
 | nil=>cases h
 | cons b r ih=>
  rw [zm3];rcases qd.1 h with rfl | h
  ·omega
  ·have:=ih h; omega
theorem zPs {l:yD} {f:Factor} (h:f∈l):zn4 f.Atom≤zdu l:=by
 induction l with
 | nil=>cases h
 | cons b r ih=>
  rw [zjl];rcases qd.1 h with rfl | h
  ·omega
  ·have:=ih h; omega
theorem zOj {l:yA} {a:yC} (h:a∈l):zbn a≤zmE l:=by
 induction l with
 | nil=>cases h
 | cons b r ih=>
  rw [zDJ];rcases qd.1 h with rfl | h
  ·omega
  ·have:=ih h; omega
theorem z7Z {l:yE} {w:Weighted} (h:w∈l):zbn w.Ann≤zlq l:=by
 induction l with
 | nil=>cases h
 | cons b r ih=>
  rw [zCb];rcases qd.1 h with rfl | h
  ·omega
  ·have:=ih h; omega
theorem ztj {f:Int} {l:yE} {o:Int} {b:Value} (h:fitK f l o b=true):(0≤f∧f≤3∧5≤o∧o≤10)∧valV b=true∧∀ w∈l,valV w.Value=true∧w.Value.Kind=b.Kind:=by
 simp only [fitK,qc,List.all_eq_true,qe] at h;obtain ⟨⟨⟨⟨⟨⟨h1,h2⟩,h3⟩,h4⟩,h5⟩,h6⟩,h7⟩:=h;refine ⟨⟨h1,h2,h3,h4⟩,h5,fun w hw=> ?_⟩
 have:=h7 w hw;simp only [fitI,qc,beq_iff_eq] at this;exact this.1
theorem z1M:∀ (m:Nat) (a:yC),zbB m a=true→zo (zbn a+1) a
 | 0,a,h=>by cases h
 | m+1,a,h=>by
  have hw:=zwz (zG9 h);refine ⟨by omega,fun t ht=> ?_⟩
  obtain ⟨_,hok⟩:=zwv h ht;obtain ⟨h1,h2⟩:=hw.2.2.2 t ht;refine ⟨by omega,fun f hf=> ?_⟩
  have hv:=zdG.1 (zpE hok hf).2;have hn:zn4 f.Atom≤zbn a:=Nat.le_trans (zPs hf) (z3g ht);have h3:=(h2 f hf).2;generalize f.Atom=x at hv hn h3;rw [zDI] at hn;have ih:∀ b,zbB m b=true→zbn b+1≤zbn a→zo (zbn a) b:=fun b hb hl=>(z1M m b hb).mono hl
  cases hv with
  | var r h=>exact ⟨⟨by simp,by simp,by show (ByteArray.mk #[]).size≤_; decide⟩,fun a ha=>(by cases ha),fun w hw=>(by cases hw)⟩
  | mon b c hb hc _ _ _=>
   simp only at hn;refine ⟨⟨by simp,by simp,by show (ByteArray.mk #[]).size≤_; decide⟩,fun y hy=> ?_,fun w hw=>(by cases hw)⟩
   have:=zOj hy;simp only at this;simp only [qd,List.not_mem_nil,or_false] at hy;rcases hy with rfl | rfl
   ·exact ih _ hb (by simp at hn; omega)
   ·exact ih _ hc (by simp at hn; omega)
  | del b hb _ _ _=>
   refine ⟨⟨by simp,by simp,by show (ByteArray.mk #[]).size≤_; decide⟩,fun y hy=> ?_,fun w hw=>(by cases hw)⟩
   have:=zOj hy;simp only at this;simp only [qd,List.not_mem_nil,or_false] at hy;subst hy;exact ih _ hb (by simp at hn; omega)
  | abs b hb _ _=>
   refine ⟨⟨by simp,by simp,by show (ByteArray.mk #[]).size≤_; decide⟩,fun y hy=> ?_,fun w hw=>(by cases hw)⟩
   have:=zOj hy;simp only at this;simp only [qd,List.not_mem_nil,or_false] at hy;subst hy;exact ih _ hb (by simp at hn; omega)
  | tst fn l o b hl hi hs hf=>
   obtain ⟨_,hb,hit⟩:=ztj hf;refine ⟨⟨by simp,by simp only at h3 ⊢; omega,by have:=zwt hb; simp only; omega⟩,fun y hy=>(by cases hy),fun w hw=>⟨by have:=zwt (hit w hw).1; omega, ?_⟩⟩
   have:=z7Z hw;simp only at this;exact ih _ (hi w hw).1 (by simp at hn; omega)
theorem ze2 {m:Nat} {a:yC} (h:zbB m a=true):zo 9 a∧zM a≤4096∧a.length≤512:=by
 cases m with
 | zero=>cases h
 | succ m=>
 have hw:=zwz (zG9 h);exact ⟨(z1M _ a h).mono (by omega),hw.2.2.1,hw.1⟩
theorem z5g {d m m':Nat} {a:yC} (h:zo d a) (hd:d≤100) (h1:d≤m) (h2:d≤m') (hs:zM a≤4611686018427387904):zbB m a=zbB m' a:=by
 have e1:=(zN0 1000).1 d m a h (by omega) h1 hd hs
 have e2:=(zN0 1000).1 d m' a h (by omega) h2 hd hs
 rw [e1] at e2;exact (Prod.mk.injEq _ _ _ _ ▸ e2).2
theorem z8f {m:Nat} {a:yC} (h:zbB m a=true) (hm:9≤m):zC a=true:=by
 obtain ⟨h1,h2,h3⟩:=ze2 h;rw [← h]; exact z5g h1 (by omega) (by omega) hm (by omega)
theorem zZ9 {m:Nat} {a:yC} (h:zC a=true) (hm:9≤m):zbB m a=true:=by
 obtain ⟨h1,h2,h3⟩:=ze2 h;rw [← h]; exact z5g h1 (by omega) hm (by omega) (by omega)
theorem VA.imp {V V':yC→Bool} (hV:∀ a,V a=true→V' a=true) {x:Atom} (h:VA V x):VA V' x:=by
 cases h with
 | var r h=>exact .var r h
 | mon a b ha hb ha0 hb0 h=>exact .mon a b (hV a ha) (hV b hb) ha0 hb0 h
 | del a ha ha0 h h'=>exact .del a (hV a ha) ha0 h h'
 | abs a ha ha0 h=>exact .abs a (hV a ha) ha0 h
 | tst f l o b hl hi hs hf=>exact .tst f l o b hl (fun w hw=>⟨hV _ (hi w hw).1,(hi w hw).2⟩) hs hf
def vatA (x:Atom):Bool:=zej zC x
theorem zbbN {m:Nat} (hm:9≤m):zej (zbB m)=vatA:=by
 funext x
 rw [Bool.eq_iff_iff];unfold vatA;rw [zdG,zdG];exact ⟨VA.imp fun a h=>z8f h hm,VA.imp fun a h=>zZ9 h hm⟩
theorem z3m (a:yC):zC a=vAnn vatA a:=by
 show vAnn (zej (zbB 99)) a=_;rw [zbbN (by omega)]
theorem z1a {τ:Type} [Inhabited τ] {l:List τ} {i:Nat} (h:i<l.length):l.set i (l.getD i default)=l:=by
 rw [List.getD_eq_getElem?_getD,List.getElem?_eq_getElem h]; simp
section
variable (g:yC→Bool×yC) (gx:Atom→Bool×Atom)
theorem cp_7 (t8:yC) (t9 t10:Int) (out:yC) (t:Term) (l:yD) (hl:l.length≤1000000) (hg:∀ f∈l,gx f.Atom=(true,f.Atom)) (n:Nat) (hn:l.length<n):
  zB3 gx n t8 t9 t10 l.length 0 out t l=(true,(t8,t9,t10,out,t,l)):=by
 have:=zeh (W:=zt8 gx) (z:=default) l.length (fun i=>((),(),(),t8,t9,t10,(l.length:Int),(i:Int),())) (fun _=>(out,t,l,())) (fun _=>true) default (t8,t9,t10,out,t,l)
  (fun i hi H K D=>by
   show (zjK gx t8 t9 t10 l.length i out t l).ev H K D=_;unfold zjK;simp only [Atom.eta,Wy.ev_i,Wy.ev_k,Wy.ev_h,Wy.ev_bn,Wy.ev_d,tT,hi,hg _ (zt hi)];rw [zQ (by omega)]
   have:(l.set i (⟨(l.getD i default).Atom,(l.getD i default).Exp⟩:Factor))=l:=z1a hi;rw [this])
  (fun H K D=>by
   show (zjK gx t8 t9 t10 l.length l.length out t l).ev H K D=_;unfold zjK;simp only [Wy.ev_i,Wy.ev_k,tT,Nat.lt_irrefl]) n hn
 rw [show allN (fun _=>true) l.length 0=true from zeu.2 fun _ _ _=>rfl] at this
 exact this
theorem cp_3 (a:yC) (hl:a.length≤1000000) (hg:∀ t∈a,t.Factors.length≤1000000∧∀ f∈t.Factors,gx f.Atom=(true,f.Atom)) (n:Nat) (hn:a.length<n):
  zBL gx n a a.length 0 []=(true,a):=by
 have hreach:reach=70368744177664:=rfl
 have:=zeh (W:=zuy gx) (z:=default) a.length (fun i=>((),a,(a.length:Int),(i:Int),())) (fun i=>(a.take i,())) (fun _=>true) default a
  (fun i hi H K D=>by
   show (zjQ gx a a.length i (a.take i)).ev H K D=_;unfold zjQ zfb;obtain ⟨h1,h2⟩:=hg _ (zt hi);have hb:decide ((a.getD i default).Factors.length*128≤reach)=true:=by simp only [qe]; omega
   simp only [Wy.ev_i,Wy.ev_k,Wy.ev_h,Wy.ev_bn,Wy.ev_d,tT,hi,hb];rw [cp_7 gx a a.length i (a.take i) _ _ h1 h2 _ (by omega)]
   have hb2:decide (((a.take i).length+1)*32≤reach)=true:=by simp only [qe,List.length_take]; omega
   simp only [cond_true,List.length_singleton,hb2];rw [zQ (by omega),zkm hi])
  (fun H K D=>by
   show (zjQ gx a a.length a.length (a.take a.length)).ev H K D=_;unfold zjQ;simp only [Wy.ev_i,Wy.ev_k,tT,Nat.lt_irrefl,List.take_length]) n hn
 rw [show allN (fun _=>true) a.length 0=true from zeu.2 fun _ _ _=>rfl] at this
 exact this
end
section
variable (g:yC→Bool×yC)
theorem zbf2 (l:yA) (hl:l.length≤1000000) (hg:∀ a∈l,g a=(true,a)) (n:Nat) (hn:l.length<n) (x0 x1 x2 x3:Int) (x4:yE) (x5 x6 x7:Int) (x8:ByteArray) (t0 t1 t2 t3 t4 t5 t6:Int) (t7:ByteArray):
  zx1 g n l.length 0 x0 x1 x2 x3 x4 x5 x6 x7 x8 t0 t1 t2 t3 t4 t5 t6 t7 l=(true,(x0,x1,x2,x3,x4,x5,x6,x7,x8,t0,t1,t2,t3,t4,t5,t6,t7,l)):=by
 have:=zeh (W:=zoj g) (z:=default) l.length (fun i=>((),(),(l.length:Int),(i:Int),())) (fun _=>((x0,x1,x2,(),x3,x4,x5,x6,x7,x8,()),(t0,t1,t2,(),t3,(),t4,t5,t6,t7,()),l,())) (fun _=>true) default (x0,x1,x2,x3,x4,x5,x6,x7,x8,t0,t1,t2,t3,t4,t5,t6,t7,l)
  (fun i hi H K D=>by
   show (zgk g l.length i x0 x1 x2 x3 x4 x5 x6 x7 x8 t0 t1 t2 t3 t4 t5 t6 t7 l).ev H K D=_;unfold zgk;simp only [Wy.ev_i,Wy.ev_k,Wy.ev_h,Wy.ev_bn,Wy.ev_d,tT,hi,hg _ (zt hi)];rw [zQ (by omega),z1a hi])
  (fun H K D=>by
   show (zgk g l.length l.length x0 x1 x2 x3 x4 x5 x6 x7 x8 t0 t1 t2 t3 t4 t5 t6 t7 l).ev H K D=_;unfold zgk;simp only [Wy.ev_i,Wy.ev_k,tT,Nat.lt_irrefl]) n hn
 rw [show allN (fun _=>true) l.length 0=true from zeu.2 fun _ _ _=>rfl] at this
 exact this
theorem zbf6 (l:yE) (hl:l.length≤1000000) (hg:∀ a∈l,g a.Ann=(true,a.Ann)) (n:Nat) (hn:l.length<n) (x0 x1 x2 x3 x4 x5 x6:Int) (x7:ByteArray) (t0 t1 t2 t3 t4 t5 t6:Int) (t7:ByteArray) (b2:yA):
  zxv g n l.length 0 x0 x1 x2 x3 x4 x5 x6 x7 t0 t1 t2 t3 t4 t5 t6 t7 b2 l=(true,(x0,x1,x2,x3,x4,x5,x6,x7,t0,t1,t2,t3,t4,t5,t6,t7,b2,l)):=by
 have:=zeh (W:=zop g) (z:=default) l.length (fun i=>((),(),(l.length:Int),(i:Int),())) (fun _=>((x0,x1,x2,(),x3,(),x4,x5,x6,x7,()),(t0,t1,t2,(),t3,(),t4,t5,t6,t7,()),b2,l,())) (fun _=>true) default (x0,x1,x2,x3,x4,x5,x6,x7,t0,t1,t2,t3,t4,t5,t6,t7,b2,l)
  (fun i hi H K D=>by
   show (zgp g l.length i x0 x1 x2 x3 x4 x5 x6 x7 t0 t1 t2 t3 t4 t5 t6 t7 b2 l).ev H K D=_;unfold zgp;simp only [Wy.ev_i,Wy.ev_k,Wy.ev_h,Wy.ev_bn,Wy.ev_d,tT,hi,hg _ (zt hi)];have:l.set i (⟨(l.getD i default).Value,(l.getD i default).Ann⟩:Weighted)=l:=z1a hi;rw [zQ (by omega),this])
  (fun H K D=>by
   show (zgp g l.length l.length x0 x1 x2 x3 x4 x5 x6 x7 t0 t1 t2 t3 t4 t5 t6 t7 b2 l).ev H K D=_;unfold zgp;simp only [Wy.ev_i,Wy.ev_k,tT,Nat.lt_irrefl]) n hn
 rw [show allN (fun _=>true) l.length 0=true from zeu.2 fun _ _ _=>rfl] at this
 exact this
theorem z11 (x:Atom) (h1:x.Args.length≤1000000) (h2:x.Items.length≤1000000) (hg:∀ a∈x.Args,g a=(true,a)) (hgi:∀ w∈x.Items,g w.Ann=(true,w.Ann)):ziP g x=(true,x):=by
 have hreach:reach=70368744177664:=rfl;unfold ziP zyV zd1 zeB
 have e1:∀ k:Nat,k≤1000→decide (x.Args.length*k≤reach)=true:=fun k hk=>by
  have:=Nat.mul_le_mul h1 hk;simp only [qe]; omega
 have e2:∀ k:Nat,k≤1000→decide (x.Items.length*k≤reach)=true:=fun k hk=>by
  have:=Nat.mul_le_mul h2 hk;simp only [qe]; omega
 simp only [Wy.fin_bn,Wy.fin_k,e1 _ (by omega:24≤1000),e2 _ (by omega:56≤1000),Int.ofNat_eq_natCast,cond_true]
 rw [zbf2 g _ h1 hg _ (by omega)]
 simp only [cond_true,e2 _ (by omega:56≤1000)]
 rw [zbf6 g _ h2 hgi _ (by omega)]
 simp only [cond_true];cases x; rfl
theorem z8Y (gx:Atom→Bool×Atom) (a:yC) (hl:a.length≤1000000) (hg:∀ t∈a,t.Factors.length≤1000000∧∀ f∈t.Factors,gx f.Atom=(true,f.Atom)):zmc gx a=(true,a):=by
 unfold zmc zDb;have:=cp_3 gx a hl hg (a.length+(Int.ofNat a.length).toNat +Int.toNat (0:Int)+(0:Nat)+(1:Nat)) (by omega)
 rw [show Int.ofNat a.length=(a.length:Int) from rfl] at *
 rw [Wy.fin_bn,this]; rfl
end
theorem z2W:∀ n,
  (∀ d a,zo d a→2*d≤n→zmp n a=(true,a))∧
  (∀ d x,zcV (zo d) x→2*d+1≤n→zl0 n x=(true,x))
 | 0=>by
  refine ⟨fun d a h hd=> ?_,fun d x h hd=>by omega⟩
  have:d=0:=by omega
  subst this; exact h.elim
 | n+1=>by
  obtain ⟨h1,h2⟩:=z2W n;refine ⟨fun d a h hd=> ?_,fun d x h hd=> ?_⟩
  ·cases d with
   | zero=>exact h.elim
   | succ d=>
    rw [zOz];exact z8Y _ a h.1 fun t ht=>⟨(h.2 t ht).1,fun f hf=>h2 d _ ((h.2 t ht).2 f hf) (by omega)⟩
  ·rw [zIz];exact z11 _ x h.1.1 h.1.2.1 (fun a ha=>h1 d a (h.2.1 a ha) (by omega)) fun w hw=>h1 d _ (h.2.2 w hw).2 (by omega)
theorem zG7 {d:Nat} {a:yC} (h:zo d a) (hd:d≤100):zgK a=(true,a):=(z2W 1000).1 d a h (by omega)
def fitR (a:yC):yC×Int:=bif zeW a then (a,0) else ([],6)
theorem zAW {d:Nat} {a:yC} (h:zo d a) (hd:d≤100) (hs:zM a≤4611686018427387904):zey a=(true,fitR a):=by
 unfold zey zEd fitR;simp only [Wy.fin_bn,Wy.fin_i,Wy.fin_k,z5p h hd hs,zG7 h hd,cond_true];cases zeW a <;>rfl
theorem zPG {d:Nat} {a:yC} (h:zo d a) (hd:d≤100) (hs:zM a≤4611686018427387904):znh a=(true,fitR a):=by
 unfold znh zZC fitR;simp only [Wy.fin_bn,Wy.fin_i,Wy.fin_k,z9H h hd hs,cond_true];cases zeW a <;>rfl
def oneA (x:Atom):yC:=[⟨1,[⟨x,1⟩]⟩]
theorem zGL (x:Atom):(zft x).2=oneA x:=by
 unfold zft zE1;rw [Atom.eta]; rfl
theorem zQ7 (x:Atom):(zm4 x).2=oneA x:=by
 unfold zm4 zWS;rw [Atom.eta]; rfl
theorem zNN {d:Nat} {x:Atom} (h:zcV (zo d) x):zo (d+1) (oneA x):=by
 refine ⟨by simp [oneA],fun t ht=> ?_⟩
 simp only [oneA,qh] at ht;subst ht;refine ⟨by simp,fun f hf=> ?_⟩
 simp only [qh] at hf;subst hf; exact h
theorem z03 (x:Atom):zM (oneA x)=2+ze6 x:=by
 rw [oneA,zex,ztX,zc5,ziB];simp only [List.length_singleton]; omega
theorem z6Z (x:Atom):(zgv x).2=oneA x:=by
 unfold zgv zzt;rw [Atom.eta]; rfl
theorem zbcr {x y:Atom} (h:oneA x=oneA y):x=y:=by
 simp only [oneA,qj,and_true] at h;have:=congrArg TermOf.Factors h;simp only [qj,and_true] at this;exact congrArg FactorOf.Atom this
theorem z9a {d:Nat} {x:Atom} (hx:zcV (zo d) x) (hd:d≤99) (y:Atom):zmy x y=(true,decide (x=y)):=by
 unfold zmy zCN;rw [Atom.eta,Atom.eta,z6Z,z6Z,Wy.fin_bn,zrM (zNN hx) (by omega),cond_true,Wy.fin_k]
 have:decide (oneA x=oneA y)=decide (x=y):=by
  rw [decide_eq_decide];exact ⟨zbcr,fun h=>by rw [h]⟩
 rw [this]
theorem zbga {d:Nat} (s:yD) (f:Factor) (hs:s.length≤1000000) (hf:zcV (zo d) f.Atom) (hd:d≤99):zcr s f=(true,s.any fun g=>decide (f.Exp≤g.Exp)&&decide (f.Atom=g.Atom)):=by
 unfold zcr zih
 have hw:zdE=zSr (fun (g:Factor×Unit) x=>zeE x g.1):=by
  funext x y
  unfold zdE zjq zSr zXC;rw [Factor.eta2,Factor.eta2]
 have:zcP s f=IG (fun (g:Factor×Unit) x=>zeE x g.1) (s.length+f.Atom.Args.length+f.Atom.Items.length+(Int.ofNat s.length).toNat +Int.toNat (0:Int)+(1000:Nat)) (f,()) s:=by
  unfold zcP zjF zjn;rw [hw,Factor.eta2]; rfl
 rw [Factor.eta2]
 exact zh3 (this.trans (zDT _ _ _ _ _ (by omega) (fun x _=>by
  show zeE x f=_;unfold zeE zxM;rw [Atom.eta,Atom.eta];simp only [Wy.fin_i,Wy.fin_bn,Wy.fin_k,z9a hf hd,cond_true];cases decide (f.Exp≤x.Exp) <;>rfl) (by omega)))
theorem zRX {d:Nat} {s:Term} (hs:zcb (zo d) s.Factors) (hd:d≤99) {t:Term} (ht:t.Factors.length≤1000000):zfV s t=(true,dvF s.Factors t.Factors):=by
 unfold zfV zEx
 have h3:zcy s.Factors t=(true,s.Factors.any fun f=> !t.Factors.any fun g=>decide (f.Exp≤g.Exp)&&decide (f.Atom=g.Atom)):=by
  unfold zcy ziX
  have hw:zdO=zSr (fun (g:Term×Unit) x=>zfF x g.1):=by
   funext x y
   unfold zdO zjD zSr zXC;rw [Factor.eta2]
  have:zc0 s.Factors t=IG (fun (g:Term×Unit) x=>zfF x g.1) (s.Factors.length+t.Factors.length+(Int.ofNat s.Factors.length).toNat +Int.toNat (0:Int)+(1000:Nat)) (t,()) s.Factors:=by
   unfold zc0 zj0 zjy;rw [hw]; rfl
  exact zh3 (this.trans (zDT _ _ _ _ _ (by have:=hs.1; omega) (fun x hx=>by
   show zfF x t=_;unfold zfF zA5;rw [Factor.eta2,Wy.fin_bn,zbga _ _ ht (hs.2 x hx) hd,cond_true,Wy.fin_k]) (by omega)))
 rw [Wy.fin_bn,h3,cond_true,Wy.fin_k];unfold dvF;simp [List.all_eq_not_any_not]
theorem zbf3 {d:Nat} {t:Term} {b:yC} (ht:t.Factors.length≤1000000) (hb:∀ u∈b,zcb (zo d) u.Factors) (hd:d≤99) (hl:b.length≤1000000):zch b t=(true,b.any fun u=>dvF u.Factors t.Factors):=by
 unfold zch zhC;have:zdZ b t=IG (fun (g:Term×Unit) x=>zf4 x g.1) (b.length+t.Factors.length+(Int.ofNat b.length).toNat +Int.toNat (0:Int)+(1000:Nat)) (t,()) b:=rfl
 exact zh3 (this.trans (zDT _ _ _ _ _ (by omega) (fun x hx=>by
  show zf4 x t=_;unfold zf4 zyH;rw [Wy.fin_bn,zRX (hb x hx) hd ht,cond_true,Wy.fin_k]) (by omega)))
theorem zba8 {d:Nat} {a b:yC} (ha:zo (d+1) a) (hb:zo (d+1) b) (hd:d≤98) (sa:zM a≤4611686018427387904) (sb:zM b≤4611686018427387904):zeN a b=(true,zC a&&(zC b&&leS a b)):=by
 unfold zeN zE2
 have h3:zcp a b=(true,a.any fun t=> !b.any fun u=>dvF u.Factors t.Factors):=by
  unfold zcp zie;have:zd9 a b=IG (fun (g:(yC×Unit)×Unit) x=>ziz x g.1.1) (a.length+b.length+(Int.ofNat a.length).toNat +Int.toNat (0:Int)+(1000:Nat)) ((b,()),()) a:=rfl
  exact zh3 (this.trans (zDT _ _ _ _ _ (by have:=ha.1; omega) (fun x hx=>by
   show ziz x b=_;unfold ziz zBY;rw [Wy.fin_bn,zbf3 (ha.2 x hx).1 hb.2 (by omega) hb.1,cond_true,Wy.fin_k]) (by omega)))
 rw [Wy.fin_bn,zNt ha (by omega) sa]
 simp only [Wy.fin_i,Wy.fin_bn,Wy.fin_k,zNt hb (by omega) sb,h3,cond_true]
 have e:(!a.any fun t=> !b.any fun u=>dvF u.Factors t.Factors)=leS a b:=by unfold leS; simp [List.all_eq_not_any_not]
 rw [e];cases zC a <;>cases zC b <;>rfl
def txV (v:Value):List UInt8:=if v.Kind=0 then zit v.Int else if v.Kind=1 then 39::(v.Text.data.toList.flatMap esc++[39]) else if v.Int=1 then [84,82,85,69] else [70,65,76,83,69]
def txR (r:RowID):List UInt8:=116::(zit r.Table++46::zit r.Seq)
def fnT (f:Int):List UInt8:=if f=0 then [67,79,85,78,84] else if f=1 then [83,85,77] else if f=2 then [77,73,78] else [77,65,88]
def opT (o:Int):List UInt8:=if o=5 then [61] else if o=6 then [60,62] else if o=7 then [60] else if o=8 then [60,61] else if o=9 then [62] else [62,61]
def zRl (ts:List (List UInt8)):List UInt8:=if ts=[] then [48] else zeQ ts [32,43,32]
def zVd (c:Int) (fs:List (List UInt8)):List UInt8:=if fs=[] then zit c else if c=1 then zeQ fs [42] else zit c++42::zeQ fs [42]
def zNQ (x:List UInt8) (e:Int):List UInt8:=if e=1 then x else x++94::zit e
def zdw (k:Int) (r:RowID) (xs:List (List UInt8)) (f:Int) (is:List (List UInt8)) (o:Int) (b:Value):List UInt8:=
 if k=0 then txR r
 else if k=1 then [109,111,110,117,115,91]++(xs.getD 0 []++([44,32]++(xs.getD 1 []++[93])))
 else if k=2 then [100,101,108,116,97,91]++(xs.getD 0 []++[93])
 else if k=3 then [97,98,115,101,110,116,91]++(xs.getD 0 []++[93])
 else [116,101,115,116,91]++(fnT f++([123]++(zeQ is [59,32]++([125,32]++(opT o++([32]++(txV b++[93])))))))
mutual
def txA:Atom→List UInt8
 | ⟨k,r,a,f,i,o,b⟩=>zdw k r (txAs a) f (txIs i) o b
def txFs:yD→List (List UInt8)
 | []=>[]
 | ⟨x,e⟩::l=>zNQ (txA x) e::txFs l
def txTs:yC→List (List UInt8)
 | []=>[]
 | ⟨c,fs⟩::l=>zVd c (txFs fs)::txTs l
def txAs:yA→List (List UInt8)
 | []=>[]
 | a::l=>zRl (txTs a)::txAs l
def txIs:yE→List (List UInt8)
 | []=>[]
 | ⟨v,a⟩::l=>(txV v++([58,32]++zRl (txTs a)))::txIs l
end
def txF (f:Factor):List UInt8:=zNQ (txA f.Atom) f.Exp
def txT (t:Term):List UInt8:=zVd t.Coeff (txFs t.Factors)
def txN (a:yC):List UInt8:=zRl (txTs a)
def txI (w:Weighted):List UInt8:=txV w.Value++([58,32]++txN w.Ann)
theorem zAl:∀ l,txFs l=l.map txF
 | []=>by rw [txFs]; rfl
 | x::r=>by rw [txFs,zAl r]; rfl
theorem zSj:∀ l,txTs l=l.map txT
 | []=>by rw [txTs]; rfl
 | x::r=>by rw [txTs,zSj r]; rfl
theorem zmB:∀ l,txAs l=l.map txN
 | []=>by rw [txAs]; rfl
 | x::r=>by rw [txAs,zmB r]; rfl
theorem zMt:∀ l,txIs l=l.map txI
 | []=>by rw [txIs]; rfl
 | x::r=>by rw [txIs,zMt r]; rfl
theorem zbe6 (x:Atom):txA x=zdw x.Kind x.Row (txAs x.Args) x.Func (txIs x.Items) x.Op x.Bound:=by cases x; rw [txA]
def txL (l:yD):List UInt8:=zeQ (txFs l) [42]
theorem zPA {v:Value} (h:valV v=true):(txV v).length≤512:=by
 have ht:=zwt h;unfold txV;have h1:=zpW v.Int;have h2:=z4F v.Text.data.toList;have h3:v.Text.data.toList.length=v.Text.size:=by rw [Array.length_toList]; rfl
 split
 ·omega
 ·split
  ·simp only [qf,qg,List.length_nil]; omega
  ·split <;>simp
theorem zbdL (r:RowID):(txR r).length≤44:=by
 have h1:=zpW r.Table;have h2:=zpW r.Seq;simp only [txR,qf,qg]; omega
theorem z9K (f:Int):(fnT f).length≤5:=by unfold fnT; (repeat' split) <;>simp
theorem z9G (f:Int):(opT f).length≤2:=by unfold opT; (repeat' split) <;>simp
theorem zSX {α:Type} (t:α→List UInt8) (m:α→Nat) (s:List UInt8):∀ l:List α,(∀ x∈l,(t x).length+s.length≤m x)→(zeQ (l.map t) s).length≤(l.map m).sum
 | [],_=>by simp [zeQ]
 | [x],h=>by
  have:=h x (by simp)
  simp only [List.map,zeQ,List.sum_cons,List.sum_nil]; omega
 | x::y::r,h=>by
  have h1:=h x (by simp)
  have h2:=zSX t m s (y::r) fun z hz=>h z (List.mem_cons_of_mem _ hz)
  simp only [List.map,zeQ,qg,List.sum_cons] at h2 ⊢;omega
theorem zZS:∀ l:yD,(l.map fun f=>1000+1000*ze6 f.Atom).sum=1000*(l.length+zbJ l)
 | []=>by rw [ziB]; rfl
 | f::r=>by rw [List.map_cons,List.sum_cons,zZS r,zc5,qf]; omega
theorem z4Z:∀ l:yC,(l.map fun t=>1000+1000*(t.Factors.length+zbJ t.Factors)).sum=1000*zM l
 | []=>by rw [ztX]; rfl
 | f::r=>by rw [List.map_cons,List.sum_cons,z4Z r,zex]; omega
theorem z5y:∀ l:yE,(l.map fun t=>1000+1000*zM t.Ann).sum=1000*zdn l
 | []=>by rw [zfE]; rfl
 | f::r=>by rw [List.map_cons,List.sum_cons,z5y r,zh6]; omega
theorem zbdV {x:Atom} {e:Int} (h:(txA x).length≤700+1000*ze6 x):(zNQ (txA x) e).length+1≤1000+1000*ze6 x:=by
 have:=zpW e;unfold zNQ;split
 ·omega
 ·simp only [qg,qf]; omega
theorem z8g {l:yD} (h:∀ f∈l,(txA f.Atom).length≤700+1000*ze6 f.Atom):(txL l).length≤1000*(l.length+zbJ l):=by
 unfold txL;rw [zAl, ← zZS];exact zSX txF (fun f=>1000+1000*ze6 f.Atom) [42] l fun f hf=>zbdV (h f hf)
theorem zXq:∀ (m:Nat),(∀ a,zbB m a=true→(txN a).length≤1+1000*zM a)∧(∀ x,zej (zbB m) x=true→(txA x).length≤700+1000*ze6 x)
 | m=>by
  have hA:∀ (V:yC→Bool),(∀ a,V a=true→(txN a).length≤1+1000*zM a)→∀ x,zej V x=true→(txA x).length≤700+1000*ze6 x:=by
   intro V hV x hx;rw [zg9];cases zdG.1 hx with
   | var r h=>
    rw [txA]; have:=zbdL r;simp only [zdw,if_true]; omega
   | mon a b ha hb _ _ _=>
    have h1:=hV a ha; have h2:=hV b hb;rw [txA,zmB];simp only [zdw,zeU,zgA,zfE,List.map,List.getD_cons_zero,List.getD_cons_succ,qg,qf,List.length_nil];simp only [show ¬ (1:Int)=0 by decide,if_false,if_true,qg,qf,List.length_nil]
    omega
   | del a ha _ _ _=>
    have h1:=hV a ha;rw [txA,zmB];simp only [zdw,zeU,zgA,zfE,List.map,List.getD_cons_zero];simp only [show ¬ (2:Int)=0 by decide,show ¬ (2:Int)=1 by decide,if_false,if_true,qg,qf,List.length_nil]
    omega
   | abs a ha _ _=>
    have h1:=hV a ha;rw [txA,zmB];simp only [zdw,zeU,zgA,zfE,List.map,List.getD_cons_zero];simp only [show ¬ (3:Int)=0 by decide,show ¬ (3:Int)=1 by decide,show ¬ (3:Int)=2 by decide,if_false,if_true,qg,qf,List.length_nil]
    omega
   | tst f l o b hl hi hs hf=>
    obtain ⟨_,hb,hit⟩:=ztj hf;have h1:=z9K f; have h2:=z9G o; have h3:=zPA hb
    have h4:(zeQ (l.map txI) [59,32]).length≤1000*zdn l:=by
     rw [← z5y];refine zSX txI (fun w=>1000+1000*zM w.Ann) [59,32] l fun w hw=> ?_
     have h5:=hV _ (hi w hw).1; have h6:=zPA (hit w hw).1;simp only [txI,qg,qf,List.length_nil]; omega
    rw [txA,zMt];simp only [zdw,zgA];simp only [show ¬ (4:Int)=0 by decide,show ¬ (4:Int)=1 by decide,show ¬ (4:Int)=2 by decide,show ¬ (4:Int)=3 by decide,if_false,qg,qf,List.length_nil]
    omega
  have hN:∀ a,zbB m a=true→(txN a).length≤1+1000*zM a:=by
   induction m with
   | zero=>intro a h; cases h
   | succ m ih=>
    intro a h;unfold txN zRl;split
    ·simp
    ·rw [zSj, ← z4Z];refine Nat.le_trans (zSX txT (fun t=>1000+1000*(t.Factors.length+zbJ t.Factors)) [32,43,32] a fun t ht=> ?_) (Nat.le_add_left _ _)
     have hok:=(zwv h ht).2;have h5:=z8g (l:=t.Factors) fun f hf=>hA _ ih _ (zpE hok hf).2
     have h6:=zpW t.Coeff;have e:(zeQ (txFs t.Factors) [42]).length=(txL t.Factors).length:=rfl;unfold txT zVd;simp only [qf,List.length_nil];split
     ·omega
     ·split
      ·omega
      ·simp only [qg,qf]; omega
  exact ⟨hN,hA _ hN⟩
theorem zmI {n:Int} (h:wf3 n): -9223372036854775808≤n∧n≤9223372036854775807:=by
 have h:(Lit.int .i64 n).wf=true:=h;have:IntKind.i64.min≤n∧n≤IntKind.i64.max:=by simpa [Lit.wf] using h
 exact ⟨this.1,this.2⟩
def rng (n:Int):Prop:= -9223372036854775808≤n∧n≤9223372036854775807
instance (n:Int):Decidable (rng n):=by unfold rng; infer_instance
theorem z0u {n:Int} (h:rng n):strconv_Itoa n=(true,bs (zit n)):=by
 unfold strconv_Itoa zSN zNu;rw [decide_eq_true h.1,decide_eq_true h.2]; rfl
theorem z9L {n:Int} (h:rng n):zi8 n 10=(true,bs (zit n)):=by
 unfold zi8 zwV zNu;rw [decide_eq_true h.1,decide_eq_true h.2]; rfl
theorem okS (n m:Nat) (h:n+m≤9223372036854775807):decide (n+m≤9223372036854775807)=true:=decide_eq_true h
theorem zbdd {r:RowID} (h:zAK r=true) (h1:rng r.Table) (h2:rng r.Seq):zxm r=(true,bs (txR r)):=by
 unfold zxm zNA txR;have l1:=zpW r.Table;have l2:=zpW r.Seq;rw [show ByteArray.mk #[(116:UInt8)]=bs [116] from rfl,show ByteArray.mk #[(46:UInt8)]=bs [46] from rfl]
 simp only [Wy.fin_bn,Wy.fin_i,Wy.fin_k,zDR,h,z0u h1,z0u h2,cond_true,cond_false,Bool.not_true,zDG,zvE,qg,qf,List.length_nil];rw [okS _ _ (by omega),okS _ _ (by omega),okS _ _ (by omega)]
 simp
theorem z7a {v:Value} (h:valV v=true) (hr:rng v.Int):zvh v=(true,bs (txV v)):=by
 unfold zvh zQK txV strings_ReplaceAll;have ht:=zwt h;rw [show ByteArray.mk #[(39:UInt8)]=bs [39] from rfl,show ByteArray.mk #[(39:UInt8),(39:UInt8)]=bs [39,39] from rfl]
 simp only [Wy.fin_bn,Wy.fin_i,Wy.fin_k,zFt,h,z9L hr,z4i _ ht,cond_true,cond_false,Bool.not_true,zDG,zvE,qg,qf,List.length_nil];have h2:=z4F v.Text.data.toList;have h3:v.Text.data.toList.length=v.Text.size:=by rw [Array.length_toList]; rfl
 rw [okS _ _ (by omega),okS _ _ (by omega)]
 by_cases k0:v.Kind=0
 ·simp [k0]
 by_cases k1:v.Kind=1
 ·simp [k1]
 simp only [beqd,k0,k1,decide_false,cond_false,if_false];by_cases i1:v.Int=1
 ·simp only [i1,decide_true,cond_true,if_true]; rfl
 ·simp only [i1,decide_false,cond_false,if_false]; rfl
theorem zbd8 {f:Int} (h0:0≤f) (h3:f≤3):(decide ((0:Int)≤f)&&decide (f<Int.ofNat zb2.snd.length))=true∧zb2.snd.getD f.toNat default=bs (fnT f):=by
 have hc:f=0∨f=1∨f=2∨f=3:=by omega
 rcases hc with rfl | rfl | rfl | rfl <;>exact ⟨rfl,rfl⟩
theorem zbd4 {o:Int} (h0:5≤o) (h3:o≤10):(decide ((0:Int)≤IntKind.i64.wrap (o - 5))&&decide (IntKind.i64.wrap (o - 5)<Int.ofNat zdQ.snd.length))=true∧zdQ.snd.getD (IntKind.i64.wrap (o - 5)).toNat default=bs (opT o):=by
 have hc:o=5∨o=6∨o=7∨o=8∨o=9∨o=10:=by omega
 rcases hc with rfl | rfl | rfl | rfl | rfl | rfl <;>exact ⟨rfl,rfl⟩
theorem zZF {m:Nat} {x:Atom} (h:zej (zbB m) x=true) (hi:x.Items.length≤1024):ze6 x≤4195328:=by
 rw [zg9];cases zdG.1 h with
 | var r h=>rw [zgA,zfE]; omega
 | mon a b ha hb _ _ _=>
  have h1:=(ze2 ha).2.1; have h2:=(ze2 hb).2.1;simp only [zeU,zgA,zfE]; omega
 | del a ha _ _ _=>
  have h1:=(ze2 ha).2.1;simp only [zeU,zgA,zfE]; omega
 | abs a ha _ _=>
  have h1:=(ze2 ha).2.1;simp only [zeU,zgA,zfE]; omega
 | tst f l o b hl hv hs hf=>
  have h1:∀ l:yE,(∀ w∈l,zM w.Ann≤4096)→zdn l≤l.length*4097:=fun l=>by
   induction l with
   | nil=>intro _; rw [zfE]; omega
   | cons w r ih=>
    intro h;have:=h w (by simp)
    have:=ih fun w hw=>h w (by simp [hw])
    rw [zh6,qf,Nat.add_mul]; omega
  have:=h1 l fun w hw=>(ze2 (hv w hw).1).2.1
  have:=Nat.mul_le_mul hi (Nat.le_refl 4097);simp only [zgA] at this ⊢; omega
section
variable (gA:Atom→Bool×ByteArray) (gF:yD→Bool×ByteArray) (gT:yC→Bool×ByteArray)
theorem zbe4 (l:yD) (hl:l.length≤1000) (hg:∀ f∈l,gA f.Atom=(true,bs (txA f.Atom))∧(txA f.Atom).length≤4200000000∧rng f.Exp):zgg gA l=(true,bs (txL l)):=by
 have hreach:reach=70368744177664:=rfl;unfold zgg zvo
 have:=zeh (W:=zlU gA) (z:=default) l.length (fun i=>((),l,(l.length:Int),(i:Int),())) (fun i=>((l.take i).map fun f=>bs (txF f),())) (fun _=>true) default (l.map fun f=>bs (txF f))
  (fun i hi H K D=>by
   show (zfe gA l l.length i ((l.take i).map fun f=>bs (txF f))).ev H K D=_
   unfold zfe;obtain ⟨h1,h2,h3⟩:=hg _ (zt hi);have l1:=zpW (l.getD i default).Exp;rw [show ByteArray.mk #[(94:UInt8)]=bs [94] from rfl]
   simp only [Atom.eta,Wy.ev_i,Wy.ev_k,Wy.ev_h,Wy.ev_bn,Wy.ev_d,tT,hi,h1,z0u h3,zDG,zvE,qg,qf,List.length_nil];rw [okS _ _ (by omega),okS _ _ (by omega),zQ (by omega),zkm hi,List.map_append]
   have hb:decide ((((l.take i).map fun f=>bs (txF f)).length+1)*16≤reach)=true:=by simp only [qe,List.length_map,List.length_take]; omega
   generalize ((l.take i).map fun f=>bs (txF f))=out at hb ⊢
   have hb':decide ((out.length+(0+1))*16≤reach)=true:=hb;simp only [hb,hb',cond_true,List.map_cons,List.map_nil,txF,zNQ,bne0];by_cases he:(l.getD i default).Exp=1
   ·simp only [he,decide_true,Bool.not_true,cond_false,if_true]
   ·simp only [he,decide_false,Bool.not_false,cond_true,if_false,List.singleton_append])
  (fun H K D=>by
   show (zfe gA l l.length l.length ((l.take l.length).map fun f=>bs (txF f))).ev H K D=_
   unfold zfe;simp only [Wy.ev_i,Wy.ev_k,tT,Nat.lt_irrefl,List.take_length]) (l.length+(Int.ofNat l.length).toNat +Int.toNat (0:Int)+(0:Nat)+(1:Nat)) (by omega)
 rw [show allN (fun _=>true) l.length 0=true from zeu.2 fun _ _ _=>rfl] at this
 have e:zuJ gA (l.length+(Int.ofNat l.length).toNat +Int.toNat (0:Int)+(0:Nat)+(1:Nat)) l (Int.ofNat l.length) (0:Int) []=(true,(l.map txF).map bs):=by rw [List.map_map]; exact this
 have hlen:(zeQ (l.map txF) [42]).length≤140737488355328:=by
  refine Nat.le_trans (zV9 (B:=4200001000) (l.map txF) [42] fun x hx=> ?_) (by
   rw [List.length_map]; have:=Nat.mul_le_mul hl (Nat.le_refl 4200001000); omega)
  obtain ⟨f,hf,rfl⟩:=List.mem_map.1 hx;have:=(hg f hf).2.1;have:=zpW f.Exp;unfold txF zNQ;split
  ·simp only [qf,List.length_nil]; omega
  ·simp only [qg,qf,List.length_nil]; omega
 rw [Wy.fin_bn,e,show ByteArray.mk #[(42:UInt8)]=bs [42] from rfl]
 unfold strings_Join;simp only [cond_true,Wy.fin_bn,Wy.fin_k,z0a _ _ (by rw [List.length_map]; omega) hlen]
 unfold txL;rw [zAl]
theorem zbfq (a:yC) (hl:a.length≤1000) (hlen:(txN a).length≤140737488355328) (hg:∀ t∈a,gF t.Factors=(true,bs (txL t.Factors))∧(txL t.Factors).length≤4200000000∧rng t.Coeff):zoU gF a=(true,bs (txN a)):=by
 have hreach:reach=70368744177664:=rfl;unfold zoU zE5;by_cases h0:a=[]
 ·subst h0;have e:txN []=[48]:=by unfold txN; rw [txTs]; rfl
  rw [e]; rfl
 have hne:(Int.ofNat a.length==(0:Int))=false:=by
  rw [beq_eq_false_iff_ne]; intro e;have:(a.length:Int)=0:=e;exact h0 (List.length_eq_zero_iff.1 (by omega))
 have:=zeh (W:=zw0 gF) (z:=default) a.length (fun i=>((),a,(a.length:Int),(i:Int),())) (fun i=>((a.take i).map fun f=>bs (txT f),())) (fun _=>true) default (a.map fun f=>bs (txT f))
  (fun i hi H K D=>by
   show (zkZ gF a a.length i ((a.take i).map fun f=>bs (txT f))).ev H K D=_
   unfold zkZ;obtain ⟨h1,h2,h3⟩:=hg _ (zt hi);have l1:=zpW (a.getD i default).Coeff;rw [show ByteArray.mk #[(42:UInt8)]=bs [42] from rfl]
   have hL:decide ((i:Int)<(a.length:Int))=true:=by simp [hi]
   have hL':decide ((i:Int)<Int.ofNat a.length)=true:=hL;simp only [Wy.ev_i,Wy.ev_k,Wy.ev_h,Wy.ev_bn,Wy.ev_d,hL,hL',ze8,Bool.and_self,cond_true,Int.toNat_natCast,h1,z9L h3,zDG,zvE,qg,qf,List.length_nil,show (Int.ofNat (a.getD i default).Factors.length==(0:Int))=((a.getD i default).Factors.length==0) from zxa _ 0]
   rw [okS _ _ (by omega),okS _ _ (by omega),zQ (by omega),zkm hi,List.map_append]
   have hb:decide ((((a.take i).map fun f=>bs (txT f)).length+1)*16≤reach)=true:=by simp only [qe,List.length_map,List.length_take]; omega
   generalize ((a.take i).map fun f=>bs (txT f))=out at hb ⊢
   have hb':decide ((out.length+(0+1))*16≤reach)=true:=hb;simp only [hb,hb',cond_true,List.map_cons,List.map_nil,txT,zVd,beqd]
   have e0:(txFs (a.getD i default).Factors=[])↔(a.getD i default).Factors.length=0:=by
    rw [zAl,List.map_eq_nil_iff,List.length_eq_zero_iff]
   by_cases hf:(a.getD i default).Factors.length=0
   ·rw [if_pos (e0.2 hf),hf]; rfl
   ·rw [if_neg (fun e=>hf (e0.1 e)),beqn,decide_eq_false hf]
    by_cases he:(a.getD i default).Coeff=1
    ·simp only [he,decide_true,cond_true,cond_false,if_true,txL]
    ·simp only [he,decide_false,cond_false,if_false,txL,List.append_assoc,List.singleton_append])
  (fun H K D=>by
   show (zkZ gF a a.length a.length ((a.take a.length).map fun f=>bs (txT f))).ev H K D=_
   unfold zkZ;simp only [Wy.ev_i,Wy.ev_k,tT,Nat.lt_irrefl,List.take_length]) (a.length+(Int.ofNat a.length).toNat +Int.toNat (0:Int)+(0:Nat)+(1:Nat)) (by omega)
 rw [show allN (fun _=>true) a.length 0=true from zeu.2 fun _ _ _=>rfl] at this
 have e:zDt gF (a.length+(Int.ofNat a.length).toNat +Int.toNat (0:Int)+(0:Nat)+(1:Nat)) a (Int.ofNat a.length) (0:Int) []=(true,(a.map txT).map bs):=by rw [List.map_map]; exact this
 have ex:txN a=zeQ (a.map txT) [32,43,32]:=by
  unfold txN zRl;rw [zSj,if_neg (by simpa using h0)]
 rw [ex] at hlen ⊢;rw [Wy.fin_i,hne,cond_false,Wy.fin_bn,e,show ByteArray.mk #[(32:UInt8),(43:UInt8),(32:UInt8)]=bs [32,43,32] from rfl]
 unfold strings_Join;simp only [cond_true,Wy.fin_bn,Wy.fin_k,z0a _ _ (by rw [List.length_map]; omega) hlen]
theorem zbfv {V:yC→Bool} (x:Atom) (hx:zej V x=true) (hw:zgn x) (hi:x.Items.length≤1024) (hg:∀ a,(a∈x.Args∨∃ w∈x.Items,a=w.Ann)→gT a=(true,bs (txN a))∧(txN a).length≤4200000000):zi4 gT x=(true,bs (txA x)):=by
 have hreach:reach=70368744177664:=rfl;have W:=zpN hw;unfold zi4 zyW;rw [zbe6];cases zdG.1 hx with
 | var r h=>
  have hr:=W.2.2.2.2.1;simp only [Wy.fin_bn,Wy.fin_i,Wy.fin_k,zbdd h (zmI hr.1) (zmI hr.2)];simp [zdw]
 | mon a b ha hb _ _ _=>
  obtain ⟨g1,l1⟩:=hg a (.inl (by simp))
  obtain ⟨g2,l2⟩:=hg b (.inl (by simp))
  rw [zmB];simp only [List.map,zdw,List.getD_cons_zero,List.getD_cons_succ,show ¬ (1:Int)=0 by decide,if_false,if_true]
  rw [show ByteArray.mk #[(109:UInt8),(111:UInt8),(110:UInt8),(117:UInt8),(115:UInt8),(91:UInt8)]=bs [109,111,110,117,115,91] from rfl,show ByteArray.mk #[(44:UInt8),(32:UInt8)]=bs [44,32] from rfl,show ByteArray.mk #[(93:UInt8)]=bs [93] from rfl]
  simp only [cond_true,cond_false,Wy.fin_i,Wy.fin_bn,Wy.fin_k,show ((1:Int)==0)=false from rfl,show ((1:Int)==1)=true from rfl,show (decide ((0:Int)≤0)&&decide ((0:Int)<Int.ofNat [a,b].length))=true from rfl,show (decide ((0:Int)≤1)&&decide ((1:Int)<Int.ofNat [a,b].length))=true from rfl,show [a,b].getD (Int.toNat 0) default=a from rfl,show [a,b].getD (Int.toNat 1) default=b from rfl,g1,g2,zDG,zvE,List.length_append,List.length_cons,List.length_nil]
  rw [okS _ _ (by omega),okS _ _ (by omega),okS _ _ (by omega),okS _ _ (by omega)]
  simp
 | del a ha _ _ _=>
  obtain ⟨g1,l1⟩:=hg a (.inl (by simp))
  rw [zmB];simp only [List.map,zdw,List.getD_cons_zero,show ¬ (2:Int)=0 by decide,show ¬ (2:Int)=1 by decide,if_false,if_true]
  rw [show ByteArray.mk #[(100:UInt8),(101:UInt8),(108:UInt8),(116:UInt8),(97:UInt8),(91:UInt8)]=bs [100,101,108,116,97,91] from rfl,show ByteArray.mk #[(93:UInt8)]=bs [93] from rfl]
  simp only [cond_true,cond_false,Wy.fin_i,Wy.fin_bn,Wy.fin_k,show ((2:Int)==0)=false from rfl,show ((2:Int)==1)=false from rfl,show ((2:Int)==2)=true from rfl,show (decide ((0:Int)≤0)&&decide ((0:Int)<Int.ofNat [a].length))=true from rfl,show [a].getD (Int.toNat 0) default=a from rfl,g1,zDG,zvE,List.length_append,List.length_cons,List.length_nil]
  rw [okS _ _ (by omega),okS _ _ (by omega)]
  simp
 | abs a ha _ _=>
  obtain ⟨g1,l1⟩:=hg a (.inl (by simp))
  rw [zmB];simp only [List.map,zdw,List.getD_cons_zero,show ¬ (3:Int)=0 by decide,show ¬ (3:Int)=1 by decide,show ¬ (3:Int)=2 by decide,if_false,if_true]
  rw [show ByteArray.mk #[(97:UInt8),(98:UInt8),(115:UInt8),(101:UInt8),(110:UInt8),(116:UInt8),(91:UInt8)]=bs [97,98,115,101,110,116,91] from rfl,show ByteArray.mk #[(93:UInt8)]=bs [93] from rfl]
  simp only [cond_true,cond_false,Wy.fin_i,Wy.fin_bn,Wy.fin_k,show ((3:Int)==0)=false from rfl,show ((3:Int)==1)=false from rfl,show ((3:Int)==2)=false from rfl,show ((3:Int)==3)=true from rfl,show (decide ((0:Int)≤0)&&decide ((0:Int)<Int.ofNat [a].length))=true from rfl,show [a].getD (Int.toNat 0) default=a from rfl,g1,zDG,zvE,List.length_append,List.length_cons,List.length_nil]
  rw [okS _ _ (by omega),okS _ _ (by omega)]
  simp
 | tst f l o b hl hv hs hf=>
  obtain ⟨⟨f0,f3,o5,o10⟩,hb,hit⟩:=ztj hf;have hwl:=zh4 W.2.1.1;have hwb:rng b.Int:=zmI W.2.2.1.2.1
  have:=zeh (W:=zni gT) (z:=default) l.length (fun i=>((),(),l,(l.length:Int),(i:Int),())) (fun i=>((⟨4,⟨0,0⟩,[],f,l,o,b⟩:Atom),(l.take i).map fun w=>bs (txI w),())) (fun _=>true) default ((⟨4,⟨0,0⟩,[],f,l,o,b⟩:Atom),l.map fun w=>bs (txI w))
   (fun i hi' H K D=>by
    show (zfZ gT l l.length i (⟨4,⟨0,0⟩,[],f,l,o,b⟩:Atom) ((l.take i).map fun w=>bs (txI w))).ev H K D=_
    unfold zfZ;have hm:=zt hi';obtain ⟨g1,l1⟩:=hg _ (.inr ⟨_,hm,rfl⟩);have l2:=zPA (hit _ hm).1;rw [show ByteArray.mk #[(58:UInt8),(32:UInt8)]=bs [58,32] from rfl]
    simp only [Wy.ev_i,Wy.ev_k,Wy.ev_h,Wy.ev_bn,Wy.ev_d,tT,hi',z7a (hit _ hm).1 (zmI (hwl _ hm).1.2.1),g1,zDG,zvE,qg,qf,List.length_nil];rw [okS _ _ (by omega),okS _ _ (by omega),zQ (by simp only at hi; omega),zkm hi',List.map_append]
    have hb:decide ((((l.take i).map fun w=>bs (txI w)).length+1)*16≤reach)=true:=by simp only at hi; simp only [qe,List.length_map,List.length_take]; omega
    generalize ((l.take i).map fun w=>bs (txI w))=out at hb ⊢
    have hb':decide ((out.length+(0+1))*16≤reach)=true:=hb;simp only [hb,hb',cond_true,List.map_cons,List.map_nil,txI,List.append_assoc])
   (fun H K D=>by
    show (zfZ gT l l.length l.length (⟨4,⟨0,0⟩,[],f,l,o,b⟩:Atom) ((l.take l.length).map fun w=>bs (txI w))).ev H K D=_
    unfold zfZ;simp only [Wy.ev_i,Wy.ev_k,tT,Nat.lt_irrefl,List.take_length]) (l.length+(Int.ofNat l.length).toNat +Int.toNat (0:Int)+([]:yA).length+l.length+(0:Nat)+(1:Nat)) (by omega)
  rw [show allN (fun _=>true) l.length 0=true from zeu.2 fun _ _ _=>rfl] at this
  have e:zwp gT (l.length+(Int.ofNat l.length).toNat +Int.toNat (0:Int)+([]:yA).length+l.length+(0:Nat)+(1:Nat)) l (Int.ofNat l.length) (0:Int) (⟨4,⟨0,0⟩,[],f,l,o,b⟩:Atom) []=(true,((⟨4,⟨0,0⟩,[],f,l,o,b⟩:Atom),(l.map txI).map bs)):=by rw [List.map_map]; exact this
  simp only at hi
  have hlen:(zeQ (l.map txI) [59,32]).length≤5000000000000:=by
   refine Nat.le_trans (zV9 (B:=4200001000) (l.map txI) [59,32] fun y hy=> ?_) (by
    rw [List.length_map]; have:=Nat.mul_le_mul hi (Nat.le_refl 4200001000); omega)
   obtain ⟨w,hw,rfl⟩:=List.mem_map.1 hy;have h1:=(hg _ (.inr ⟨w,hw,rfl⟩)).2;have h2:=zPA (hit w hw).1;simp only [txI,qg,qf,List.length_nil]; omega
  have l3:=z9K f;have l4:=z9G o;have l5:=zPA hb;rw [zMt];simp only [zdw,show ¬ (4:Int)=0 by decide,show ¬ (4:Int)=1 by decide,show ¬ (4:Int)=2 by decide,show ¬ (4:Int)=3 by decide,if_false]
  rw [show ByteArray.mk #[(116:UInt8),(101:UInt8),(115:UInt8),(116:UInt8),(91:UInt8)]=bs [116,101,115,116,91] from rfl,show ByteArray.mk #[(123:UInt8)]=bs [123] from rfl,show ByteArray.mk #[(125:UInt8),(32:UInt8)]=bs [125,32] from rfl,show ByteArray.mk #[(59:UInt8),(32:UInt8)]=bs [59,32] from rfl,show ByteArray.mk #[(32:UInt8)]=bs [32] from rfl,show ByteArray.mk #[(93:UInt8)]=bs [93] from rfl]
  simp only [Wy.fin_i,show ((4:Int)==0)=false from rfl,show ((4:Int)==1)=false from rfl,show ((4:Int)==2)=false from rfl,show ((4:Int)==3)=false from rfl,cond_false]
  unfold strings_Join;obtain ⟨fb,ft⟩:=zbd8 f0 f3;obtain ⟨ob,ot⟩:=zbd4 o5 o10;rw [e,zXw];simp only [Wy.fin_i,Wy.fin_k,Wy.fin_bn,fb,ft,ob,ot,z0a _ _ (show (l.map txI).length≤140737488355328 by rw [List.length_map]; omega) (show (zeQ (l.map txI) [59,32]).length≤140737488355328 by omega),z7a hb hwb,cond_true,zDG,zvE,List.length_append,List.length_cons,List.length_nil]
  rw [okS _ _ (by omega),okS _ _ (by omega),okS _ _ (by omega),okS _ _ (by omega),okS _ _ (by omega),okS _ _ (by omega),okS _ _ (by omega),okS _ _ (by omega)]
  simp
end
theorem z6R:∀ n,
  (∀ m a,zbB m a=true→zgr a→3*m≤n→zuW n a=(true,bs (txN a)))∧
  (∀ m x,zej (zbB m) x=true→zgn x→x.Items.length≤1024→3*m+1≤n→zl5 n x=(true,bs (txA x)))∧
  (∀ m (l:yD),l.length≤1000→(∀ f∈l,zej (zbB m) f.Atom=true∧zgn f.Atom∧f.Atom.Items.length≤1024∧rng f.Exp)→3*m+2≤n→zgm n l=(true,bs (txL l)))
 | 0=>by
  refine ⟨?_, ?_, ?_⟩
  ·intro m a h _ hm; have:m=0:=by omega
   subst this; cases h
  all_goals (intros; omega)
 | n+1=>by
  obtain ⟨h1,h2,h3⟩:=z6R n;refine ⟨?_, ?_, ?_⟩
  ·intro m a h hw hm;cases m with
   | zero=>cases h
   | succ m=>
    have hl:=zwz (zG9 h);have hlen:=(zXq (m+1)).1 a h;rw [zRo];refine zbfq _ a (by omega) (by omega) fun t ht=> ?_
    obtain ⟨⟨c1,c2⟩,hok⟩:=zwv h ht;obtain ⟨q1,q2⟩:=hl.2.2.2 t ht;have hwt:=zom (zwH (ztS hw t ht)).2.1;refine ⟨h3 m t.Factors (by omega) (fun f hf=> ?_) (by omega), ?_,by constructor <;>omega⟩
    ·obtain ⟨⟨e1,_⟩,hv⟩:=zpE hok hf;exact ⟨hv,(zrz (hwt f hf)).1,(q2 f hf).2,by have:=(q2 f hf).1; constructor <;>omega⟩
    ·refine Nat.le_trans (z8g fun f hf=>(zXq m).2 _ (zpE hok hf).2) ?_
     have hs:t.Factors.length+zbJ t.Factors≤zM a:=by
      clear hok q1 q2 hwt hw h hlen hl;induction a with
      | nil=>cases ht
      | cons b r ih=>
       rw [zex];rcases qd.1 ht with rfl | ht
       ·omega
       ·have:=ih ht; omega
     omega
  ·intro m x h hw hi hm;rw [zIp];have W:=zpN hw;refine zbfv _ x h hw hi fun a ha=> ?_
   have hv:zbB m a=true∧zgr a:=by
    rcases ha with ha | ⟨w,hw',rfl⟩
    ·refine ⟨?_,(zjV W.1.1 a ha).1⟩;cases zdG.1 h with
     | var r h=>cases ha
     | mon b c hb hc _ _ _=>
      simp only [qd,List.not_mem_nil,or_false] at ha;rcases ha with rfl | rfl
      ·exact hb
      ·exact hc
     | del b hb _ _ _=>rw [qh] at ha; subst ha; exact hb
     | abs b hb _ _=>rw [qh] at ha; subst ha; exact hb
     | tst f l o b hl hi hs hf=>cases ha
    ·refine ⟨?_,(zh4 W.2.1.1 w hw').2.1⟩;cases zdG.1 h with
     | tst f l o b hl hi2 hs hf=>exact (hi2 w hw').1
     | _=>cases hw'
   refine ⟨h1 m a hv.1 hv.2 (by omega), ?_⟩
   have q1:=(zXq m).1 a hv.1;have q2:=(ze2 hv.1).2.1;omega
  ·intro m l hl h hm;rw [zEJ];refine zbe4 _ l hl fun f hf=> ?_
   obtain ⟨q1,q2,q3,q4⟩:=h f hf;refine ⟨h2 m f.Atom q1 q2 q3 (by omega), ?_,q4⟩
   have q5:=(zXq m).2 f.Atom q1;have q6:=zZF q1 q3;omega
def hd (S:List UInt8) (u:List UInt8):Prop:=∀ c,u.head? =some c→c∈S
theorem zqj {S:List UInt8} {c:UInt8} {u:List UInt8} (h:c∈S):hd S (c::u):=fun d hd=>by
 simp only [List.head?_cons,qa] at hd; subst hd; exact h
theorem hd.mono {S T:List UInt8} {u:List UInt8} (h:hd S u) (hs:∀ c∈S,c∈T):hd T u:=fun c hc=>hs c (h c hc)
theorem hd.noDig {S:List UInt8} {u:List UInt8} (h:hd S u) (hs:∀ c∈S,isDg c=false):noDig u:=fun c hc=>hs c (h c hc)
theorem hd.ne {S:List UInt8} {u:List UInt8} (h:hd S u) {c:UInt8} (hs:c∉S):u.head? ≠some c:=fun e=>hs (h c e)
theorem hd.cons_ne {S:List UInt8} {u:List UInt8} {c:UInt8} (h:hd S (c::u)) (hs:c∉S):False:=hs (h c rfl)
theorem zNp {α:Type} (tx:α→List UInt8) (S0:List UInt8) (s0:UInt8) (sr:List UInt8) (P:α→Prop) (hS:s0∉S0) (hR:∀ x y,P x→P y→∀ u v,hd (s0::S0) u→hd (s0::S0) v→tx x++u=tx y++v→x=y∧u=v):
  ∀ l l':List α,l≠[]→l'≠[]→(∀ x∈l,P x)→(∀ x∈l',P x)→∀ u v,hd S0 u→hd S0 v→zeQ (l.map tx) (s0::sr)++u=zeQ (l'.map tx) (s0::sr)++v→l=l'∧u=v
 | [],_,h,_,_,_,_,_,_,_,_=>absurd rfl h
 | _::_,[],_,h,_,_,_,_,_,_,_=>absurd rfl h
 | [x],[y],_,_,hx,hy,u,v,hu,hv,h=>by
  have mono:∀ c∈S0,c∈s0::S0:=fun c hc=>List.mem_cons_of_mem _ hc
  obtain ⟨h1,h2⟩:=hR x y (hx x (by simp)) (hy y (by simp)) u v (hu.mono mono) (hv.mono mono) h
  exact ⟨by rw [h1],h2⟩
 | [x],y::y'::r',_,_,hx,hy,u,v,hu,hv,h=>by
  have mono:∀ c∈S0,c∈s0::S0:=fun c hc=>List.mem_cons_of_mem _ hc
  simp only [List.map,zeQ,List.append_assoc] at h;obtain ⟨h1,h2⟩:=hR x y (hx x (by simp)) (hy y (by simp)) u _ (hu.mono mono) (zqj (by simp)) h
  rw [h2] at hu;exact (hu.cons_ne hS).elim
 | x::x'::r,[y],_,_,hx,hy,u,v,hu,hv,h=>by
  have mono:∀ c∈S0,c∈s0::S0:=fun c hc=>List.mem_cons_of_mem _ hc
  simp only [List.map,zeQ,List.append_assoc] at h;obtain ⟨h1,h2⟩:=hR x y (hx x (by simp)) (hy y (by simp)) _ v (zqj (by simp)) (hv.mono mono) h
  rw [← h2] at hv;exact (hv.cons_ne hS).elim
 | x::x'::r,y::y'::r',_,_,hx,hy,u,v,hu,hv,h=>by
  have h:zeQ (((x::x'::r)).map tx) (s0::sr)++u=zeQ (((y::y'::r')).map tx) (s0::sr)++v:=h;simp only [List.map,zeQ,List.append_assoc] at h;obtain ⟨h1,h2⟩:=hR x y (hx x (by simp)) (hy y (by simp)) _ _ (zqj (by simp)) (zqj (by simp)) h
  have h3:=(List.append_right_inj sr).1 (List.cons.inj h2).2;obtain ⟨h4,h5⟩:=zNp tx S0 s0 sr P hS hR (x'::r) (y'::r') (by simp) (by simp) (fun z hz=>hx z (List.mem_cons_of_mem _ hz)) (fun z hz=>hy z (List.mem_cons_of_mem _ hz)) u v hu hv h3
  exact ⟨by rw [h1,h4],h5⟩
theorem z6B {t:ByteArray} (h:t.size=0):t=ByteArray.mk #[]:=zHl (by
 have:t.data.toList.length=0:=by rw [Array.length_toList]; exact h
 rw [List.length_eq_zero_iff.1 this])
theorem z8B {x y:Value} (hx:valV x=true) (hy:valV y=true) (rx:rng x.Int) (ry:rng y.Int) {u v:List UInt8} (hu:hd [58,93] u) (hv:hd [58,93] v) (h:txV x++u=txV y++v):x=y∧u=v:=by
 have d1:∀ c∈([58,93]:List UInt8),isDg c=false:=by decide
 obtain ⟨cx,sx,ex,dx⟩:=z5z rx.1 rx.2;obtain ⟨cy,sy,ey,dy⟩:=z5z ry.1 ry.2
 have nd:∀ c:UInt8,c=45∨isDg c=true→c≠39∧c≠84∧c≠70:=fun c hc=>by
  refine ⟨?_, ?_, ?_⟩ <;>(intro e; subst e; revert hc; decide)
 obtain ⟨kx,ix,tx⟩:=x;obtain ⟨ky,iy,ty⟩:=y;simp only [valV,Bool.or_eq_true,qc,beq_iff_eq,qe] at hx hy;simp only at rx ry ex ey;rcases hx with (⟨rfl,hx⟩ | ⟨⟨rfl,rfl⟩,hx⟩) | ⟨⟨rfl,hx⟩,hx2⟩
 ·have:=z6B hx; subst this;rcases hy with (⟨rfl,hy⟩ | ⟨⟨rfl,rfl⟩,hy⟩) | ⟨⟨rfl,hy⟩,hy2⟩
  ·have:=z6B hy; subst this;simp only [txV,if_true] at h;obtain ⟨h1,h2⟩:=zwj rx ry (hu.noDig d1) (hv.noDig d1) h;exact ⟨by rw [h1],h2⟩
  ·simp only [txV,if_true,show ¬ (1:Int)=0 by decide,if_false,ex,List.cons_append,qj] at h
   exact absurd h.1 (nd cx dx).1
  ·rcases hy2 with rfl | rfl
   ·simp only [txV,if_true,show ¬ (2:Int)=0 by decide,show ¬ (2:Int)=1 by decide,show ¬ (0:Int)=1 by decide,if_false,ex,List.cons_append,qj] at h
    exact absurd h.1 (nd cx dx).2.2
   ·simp only [txV,if_true,show ¬ (2:Int)=0 by decide,show ¬ (2:Int)=1 by decide,if_false,ex,List.cons_append,qj] at h
    exact absurd h.1 (nd cx dx).2.1
 ·rcases hy with (⟨rfl,hy⟩ | ⟨⟨rfl,rfl⟩,hy⟩) | ⟨⟨rfl,hy⟩,hy2⟩
  ·simp only [txV,if_true,show ¬ (1:Int)=0 by decide,if_false,ey,List.cons_append,qj] at h
   exact absurd h.1.symm (nd cy dy).1
  ·simp only [txV,if_true,show ¬ (1:Int)=0 by decide,if_false,List.cons_append,qj,true_and,List.append_assoc,List.nil_append] at h
   obtain ⟨h1,h2⟩:=z0r _ _ u v (hu.ne (by decide)) (hv.ne (by decide)) h
   exact ⟨by rw [zHl h1],h2⟩
  ·rcases hy2 with rfl | rfl <;>simp [txV] at h
 ·have:=z6B hx; subst this;rcases hy with (⟨rfl,hy⟩ | ⟨⟨rfl,rfl⟩,hy⟩) | ⟨⟨rfl,hy⟩,hy2⟩
  ·rcases hx2 with rfl | rfl
   ·simp only [txV,if_true,show ¬ (2:Int)=0 by decide,show ¬ (2:Int)=1 by decide,show ¬ (0:Int)=1 by decide,if_false,ey,List.cons_append,qj] at h
    exact absurd h.1.symm (nd cy dy).2.2
   ·simp only [txV,if_true,show ¬ (2:Int)=0 by decide,show ¬ (2:Int)=1 by decide,if_false,ey,List.cons_append,qj] at h
    exact absurd h.1.symm (nd cy dy).2.1
  ·rcases hx2 with rfl | rfl <;>simp [txV] at h
  ·have:=z6B hy; subst this;rcases hx2 with rfl | rfl <;>rcases hy2 with rfl | rfl <;>simp [txV] at h
   ·exact ⟨rfl,h⟩
   ·exact ⟨rfl,h⟩
theorem zbcI {f g:Int} (hf:0≤f∧f≤3) (hg:0≤g∧g≤3) {u v:List UInt8} (h:fnT f++123::u=fnT g++123::v):f=g∧u=v:=by
 have c1:f=0∨f=1∨f=2∨f=3:=by omega
 have c2:g=0∨g=1∨g=2∨g=3:=by omega
 rcases c1 with rfl | rfl | rfl | rfl <;>rcases c2 with rfl | rfl | rfl | rfl <;>simp [fnT] at h <;>exact ⟨rfl,h⟩
theorem zbda {f g:Int} (hf:5≤f∧f≤10) (hg:5≤g∧g≤10) {u v:List UInt8} (h:opT f++32::u=opT g++32::v):f=g∧u=v:=by
 have c1:f=5∨f=6∨f=7∨f=8∨f=9∨f=10:=by omega
 have c2:g=5∨g=6∨g=7∨g=8∨g=9∨g=10:=by omega
 rcases c1 with rfl | rfl | rfl | rfl | rfl | rfl <;>rcases c2 with rfl | rfl | rfl | rfl | rfl | rfl <;>simp [opT] at h <;>exact ⟨rfl,h⟩
def SN:List UInt8:=[93,44,59,125]
def ST:List UInt8:=32::SN
def SF:List UInt8:=42::ST
def SA:List UInt8:=94::SF
theorem z3e:∀ c∈SA,isDg c=false:=by decide
theorem zbfP:∀ c∈ST,c∈SA:=by decide
theorem z18:∀ c∈SF,c∈SA:=by decide
def RdN (V:yC→Bool):Prop:=∀ a b,V a=true→V b=true→zgr a→zgr b→∀ u v,hd SN u→hd SN v→txN a++u=txN b++v→a=b∧u=v
def RdA (V:yC→Bool):Prop:=∀ x y,zej V x=true→zej V y=true→zgn x→zgn y→∀ u v,hd SA u→hd SA v→txA x++u=txA y++v→x=y∧u=v
theorem zbcp {V:yC→Bool} {x:Atom} (h:zej V x=true):∃ c r,txA x=c::r∧isDg c=false:=by
 cases zdG.1 h with
 | var r h=>rw [txA]; exact ⟨116,_,rfl,rfl⟩
 | mon a b _ _ _ _ _=>rw [txA]; exact ⟨109,_,rfl,rfl⟩
 | del a _ _ _ _=>rw [txA]; exact ⟨100,_,rfl,rfl⟩
 | abs a _ _ _=>rw [txA]; exact ⟨97,_,rfl,rfl⟩
 | tst f l o b _ _ _ _=>rw [txA]; exact ⟨116,_,rfl,rfl⟩
theorem zbbM {V:yC→Bool} (hV:RdN V):RdA V:=by
 intro x y hx hy wx wy u v hu hv h;have Wx:=zpN wx;have Wy:=zpN wy;have k0:¬ (1:Int)=0:=by decide
 have c44:∀ z,hd SN (44::z):=fun z=>zqj (by decide)
 have c93:∀ z,hd SN (93::z):=fun z=>zqj (by decide)
 have tE:∀ (r:RowID),zAK r=true→rng r.Table→∀ w z,zit r.Table++w≠101::z:=fun r hr hg w z e=>by
  simp only [zAK,qc,qe] at hr;obtain ⟨d1,d2⟩:=zbb1 (show 0≤r.Table by omega) hg.2
  cases hl:zit r.Table with
  | nil=>exact d2 hl
  | cons c s=>
   rw [hl] at e d1;simp only [List.cons_append,qj] at e;rw [List.all_cons,e.1] at d1;revert d1; simp [isDg]
 cases zdG.1 hx with
 | var r hr=>
  have rr:=Wx.2.2.2.2.1;simp only at rr;cases zdG.1 hy with
  | var r' hr'=>
   have rr':=Wy.2.2.2.2.1;simp only at rr';rw [txA,txA] at h;simp only [zdw,if_true,txR,List.cons_append,qj,true_and,List.append_assoc] at h;obtain ⟨h1,h2⟩:=zwj (zmI rr.1) (zmI rr'.1) (fun c hc=>by simp only [List.head?_cons,qa] at hc; subst hc; rfl) (fun c hc=>by simp only [List.head?_cons,qa] at hc; subst hc; rfl) h
   simp only [qj,true_and] at h2;obtain ⟨h3,h4⟩:=zwj (zmI rr.2) (zmI rr'.2) (hu.noDig z3e) (hv.noDig z3e) h2;obtain ⟨t,s⟩:=r; obtain ⟨t',s'⟩:=r';simp only at h1 h3;exact ⟨by rw [h1,h3],h4⟩
  | tst f l o b _ _ _ _=>
   rw [txA,txA] at h;simp only [zdw,if_true,txR,show ¬ (4:Int)=0 by decide,show ¬ (4:Int)=1 by decide,show ¬ (4:Int)=2 by decide,show ¬ (4:Int)=3 by decide,if_false,List.cons_append,qj,true_and,List.append_assoc] at h
   exact absurd h (tE r hr (zmI rr.1) _ _)
  | mon a b _ _ _ _ _=>rw [txA,txA] at h; simp [zdw,txR] at h
  | del a _ _ _ _=>rw [txA,txA] at h; simp [zdw,txR] at h
  | abs a _ _ _=>rw [txA,txA] at h; simp [zdw,txR] at h
 | mon a b ha hb _ _ _=>
  cases zdG.1 hy with
  | mon a' b' ha' hb' _ _ _=>
   rw [txA,txA,zmB,zmB] at h;simp only [zdw,if_true,k0,if_false,List.map,List.getD_cons_zero,List.getD_cons_succ,List.cons_append,qj,true_and,List.append_assoc,List.nil_append] at h;have wa:=fun z hz=>(zjV Wx.1.1 z hz).1
   have wb:=fun z hz=>(zjV Wy.1.1 z hz).1
   obtain ⟨h1,h2⟩:=hV a a' ha ha' (wa a (by simp)) (wb a' (by simp)) _ _ (c44 _) (c44 _) h
   simp only [qj,true_and] at h2;obtain ⟨h3,h4⟩:=hV b b' hb hb' (wa b (by simp)) (wb b' (by simp)) _ _ (c93 _) (c93 _) h2
   simp only [qj,true_and] at h4;exact ⟨by rw [h1,h3],h4⟩
  | var r h=>rw [txA,txA] at h; simp [zdw,txR] at h
  | del a _ _ _ _=>rw [txA,txA] at h; simp [zdw,txR] at h
  | abs a _ _ _=>rw [txA,txA] at h; simp [zdw,txR] at h
  | tst f l o b _ _ _ _=>rw [txA,txA] at h; simp [zdw,txR] at h
 | del a ha _ _ _=>
  cases zdG.1 hy with
  | del a' ha' _ _ _=>
   rw [txA,txA,zmB,zmB] at h;simp only [zdw,if_true,show ¬ (2:Int)=0 by decide,show ¬ (2:Int)=1 by decide,if_false,List.map,List.getD_cons_zero,List.cons_append,qj,true_and,List.append_assoc,List.nil_append] at h
   have wa:=fun z hz=>(zjV Wx.1.1 z hz).1
   have wb:=fun z hz=>(zjV Wy.1.1 z hz).1
   obtain ⟨h1,h2⟩:=hV a a' ha ha' (wa a (by simp)) (wb a' (by simp)) _ _ (c93 _) (c93 _) h
   simp only [qj,true_and] at h2;exact ⟨by rw [h1],h2⟩
  | var r h=>rw [txA,txA] at h; simp [zdw,txR] at h
  | mon a b _ _ _ _ _=>rw [txA,txA] at h; simp [zdw,txR] at h
  | abs a _ _ _=>rw [txA,txA] at h; simp [zdw,txR] at h
  | tst f l o b _ _ _ _=>rw [txA,txA] at h; simp [zdw,txR] at h
 | abs a ha _ _=>
  cases zdG.1 hy with
  | abs a' ha' _ _=>
   rw [txA,txA,zmB,zmB] at h;simp only [zdw,if_true,show ¬ (3:Int)=0 by decide,show ¬ (3:Int)=1 by decide,show ¬ (3:Int)=2 by decide,if_false,List.map,List.getD_cons_zero,List.cons_append,qj,true_and,List.append_assoc,List.nil_append] at h
   have wa:=fun z hz=>(zjV Wx.1.1 z hz).1
   have wb:=fun z hz=>(zjV Wy.1.1 z hz).1
   obtain ⟨h1,h2⟩:=hV a a' ha ha' (wa a (by simp)) (wb a' (by simp)) _ _ (c93 _) (c93 _) h
   simp only [qj,true_and] at h2;exact ⟨by rw [h1],h2⟩
  | var r h=>rw [txA,txA] at h; simp [zdw,txR] at h
  | mon a b _ _ _ _ _=>rw [txA,txA] at h; simp [zdw,txR] at h
  | del a _ _ _ _=>rw [txA,txA] at h; simp [zdw,txR] at h
  | tst f l o b _ _ _ _=>rw [txA,txA] at h; simp [zdw,txR] at h
 | tst f l o b hl hi hs hf=>
  cases zdG.1 hy with
  | tst f' l' o' b' hl' hi' hs' hf'=>
   obtain ⟨⟨f0,f3,o5,o10⟩,hb,hit⟩:=ztj hf;obtain ⟨⟨f0',f3',o5',o10'⟩,hb',hit'⟩:=ztj hf';have wl:=zh4 Wx.2.1.1;have wl':=zh4 Wy.2.1.1;rw [txA,txA,zMt,zMt] at h;simp only [zdw,show ¬ (4:Int)=0 by decide,show ¬ (4:Int)=1 by decide,show ¬ (4:Int)=2 by decide,show ¬ (4:Int)=3 by decide,if_false,List.cons_append,qj,true_and,List.append_assoc,List.nil_append] at h
   obtain ⟨h1,h2⟩:=zbcI ⟨f0,f3⟩ ⟨f0',f3'⟩ h
   obtain ⟨h3,h4⟩:=zNp txI [125] 59 [32] (fun w=>(V w.Ann=true∧zgr w.Ann)∧valV w.Value=true∧rng w.Value.Int) (by decide) (fun x y px py u v hu hv e=>by
    simp only [txI,List.append_assoc,List.cons_append,List.nil_append] at e;obtain ⟨e1,e2⟩:=z8B px.2.1 py.2.1 px.2.2 py.2.2 (zqj (by decide)) (zqj (by decide)) e
    simp only [qj,true_and] at e2;obtain ⟨e3,e4⟩:=hV _ _ px.1.1 py.1.1 px.1.2 py.1.2 u v (hu.mono (by decide)) (hv.mono (by decide)) e2
    obtain ⟨vx,ax⟩:=x; obtain ⟨vy,ay⟩:=y;simp only at e1 e3;exact ⟨by rw [e1,e3],e4⟩) l l' hl hl' (fun w hw=>⟨⟨(hi w hw).1,(wl w hw).2.1⟩,(hit w hw).1,zmI (wl w hw).1.2.1⟩) (fun w hw=>⟨⟨(hi' w hw).1,(wl' w hw).2.1⟩,(hit' w hw).1,zmI (wl' w hw).1.2.1⟩) _ _ (zqj (by decide)) (zqj (by decide)) h2
   simp only [qj,true_and] at h4;obtain ⟨h5,h6⟩:=zbda ⟨o5,o10⟩ ⟨o5',o10'⟩ h4;obtain ⟨h7,h8⟩:=z8B hb hb' (zmI Wx.2.2.1.2.1) (zmI Wy.2.2.1.2.1) (zqj (by decide)) (zqj (by decide)) h6
   simp only [qj,true_and] at h8;exact ⟨by rw [h1,h3,h5,h7],h8⟩
  | var r hr=>
   have rr:=Wy.2.2.2.2.1;simp only at rr;rw [txA,txA] at h;simp only [zdw,if_true,txR,show ¬ (4:Int)=0 by decide,show ¬ (4:Int)=1 by decide,show ¬ (4:Int)=2 by decide,show ¬ (4:Int)=3 by decide,if_false,List.cons_append,qj,true_and,List.append_assoc] at h
   exact absurd h.symm (tE r hr (zmI rr.1) _ _)
  | mon a b _ _ _ _ _=>rw [txA,txA] at h; simp [zdw,txR] at h
  | del a _ _ _ _=>rw [txA,txA] at h; simp [zdw,txR] at h
  | abs a _ _ _=>rw [txA,txA] at h; simp [zdw,txR] at h
def gF (V:yC→Bool) (f:Factor):Prop:=zej V f.Atom=true∧zgn f.Atom∧rng f.Exp
theorem zbfu {V:yC→Bool} (hA:RdA V) {f g:Factor} (hf:gF V f) (hg:gF V g) {u v:List UInt8} (hu:hd SF u) (hv:hd SF v) (h:txF f++u=txF g++v):f=g∧u=v:=by
 obtain ⟨x,e⟩:=f; obtain ⟨y,e'⟩:=g;obtain ⟨a1,a2,a3⟩:=hf; obtain ⟨b1,b2,b3⟩:=hg;simp only at a1 a2 a3 b1 b2 b3;have c94:∀ z,hd SA (94::z):=fun z=>zqj (by decide)
 have n94:(94:UInt8)∉SF:=by decide
 have dg:∀ c∈SF,isDg c=false:=fun c hc=>z3e c (z18 c hc)
 unfold txF zNQ at h;simp only at h;by_cases h1:e=1
 ·by_cases h2:e'=1
  ·rw [if_pos h1,if_pos h2] at h;obtain ⟨q1,q2⟩:=hA x y a1 b1 a2 b2 u v (hu.mono z18) (hv.mono z18) h;exact ⟨by rw [q1,h1,h2],q2⟩
  ·rw [if_pos h1,if_neg h2,List.append_assoc] at h;obtain ⟨q1,q2⟩:=hA x y a1 b1 a2 b2 u _ (hu.mono z18) (c94 _) h;rw [q2] at hu;exact (hu.cons_ne n94).elim
 ·by_cases h2:e'=1
  ·rw [if_neg h1,if_pos h2,List.append_assoc] at h;obtain ⟨q1,q2⟩:=hA x y a1 b1 a2 b2 _ v (c94 _) (hv.mono z18) h;rw [← q2] at hv;exact (hv.cons_ne n94).elim
  ·rw [if_neg h1,if_neg h2,List.append_assoc,List.append_assoc] at h;obtain ⟨q1,q2⟩:=hA x y a1 b1 a2 b2 _ _ (c94 _) (c94 _) h;simp only [List.cons_append,qj,true_and] at q2;obtain ⟨q3,q4⟩:=zwj a3 b3 (hu.noDig dg) (hv.noDig dg) q2;exact ⟨by rw [q1,q3],q4⟩
theorem z3O {V:yC→Bool} (hA:RdA V) {l l':yD} (hl:l≠[]) (hl':l'≠[]) (h1:∀ f∈l,gF V f) (h2:∀ f∈l',gF V f) {u v:List UInt8} (hu:hd ST u) (hv:hd ST v) (h:txL l++u=txL l'++v):l=l'∧u=v:=by
 unfold txL at h;rw [zAl,zAl] at h;exact zNp txF ST 42 [] (gF V) (by decide) (fun x y px py u v hu hv e=>zbfu hA px py hu hv e) l l' hl hl' h1 h2 u v hu hv h
theorem zFq {V:yC→Bool} {l:yD} (hl:l≠[]) (h:∀ f∈l,gF V f):∃ c r,txL l=c::r∧isDg c=false:=by
 cases l with
 | nil=>exact absurd rfl hl
 | cons f r=>
  obtain ⟨c,s,e,hc⟩:=zbcp (h f (by simp)).1
  have:∃ s',txF f=c::s':=by
   unfold txF zNQ;split
   ·exact ⟨s,e⟩
   ·exact ⟨_,by rw [e]; rfl⟩
  obtain ⟨s',e'⟩:=this;unfold txL;rw [zAl];cases r with
  | nil=>exact ⟨c,s',by simp only [List.map,zeQ]; exact e',hc⟩
  | cons g r=>exact ⟨c,_,by simp only [List.map,zeQ]; rw [e']; rfl,hc⟩
def gT (V:yC→Bool) (t:Term):Prop:=(1≤t.Coeff∧t.Coeff≤9223372036854775807)∧∀ f∈t.Factors,gF V f
theorem z38 {n:Int} (h:1≤n) (h2:n≤9223372036854775807):∃ c r,zit n=c::r∧isDg c=true∧c≠48:=by
 have e:zit n=Lib.decDigits n.toNat:=by rw [z06 (by omega) h2,Lib.itoa,if_neg (by omega)]
 obtain ⟨a1,a2,a3,a4⟩:=zWX n.toNat n.toNat (Nat.le_refl _);rw [e];cases hl:Lib.decDigits n.toNat with
 | nil=>exact absurd hl a3
 | cons c r=>
  rw [hl] at a1 a4;rw [List.all_cons,qc] at a1;exact ⟨c,r,rfl,a1.1,fun e=>a4 (by omega) (by rw [e]; rfl)⟩
theorem z7h {l:yD}:txFs l=[]↔l=[]:=by rw [zAl,List.map_eq_nil_iff]
theorem z7I (t:Term):txT t=if t.Factors=[] then zit t.Coeff else if t.Coeff=1 then txL t.Factors else zit t.Coeff++42::txL t.Factors:=by
 unfold txT zVd;by_cases h:t.Factors=[]
 ·rw [if_pos (z7h.2 h),if_pos h]
 ·rw [if_neg (fun e=>h (z7h.1 e)),if_neg h]; rfl
theorem zbfk {V:yC→Bool} (hA:RdA V) {s t:Term} (hs:gT V s) (ht:gT V t) {u v:List UInt8} (hu:hd ST u) (hv:hd ST v) (h:txT s++u=txT t++v):s=t∧u=v:=by
 obtain ⟨c,l⟩:=s; obtain ⟨c',l'⟩:=t;obtain ⟨⟨c1,c2⟩,h1⟩:=hs; obtain ⟨⟨c1',c2'⟩,h2⟩:=ht;simp only at c1 c2 h1 c1' c2' h2;have dg:∀ c∈ST,isDg c=false:=fun c hc=>z3e c (zbfP c hc)
 have n42:(42:UInt8)∉ST:=by decide
 have d42:∀ z,noDig (42::z):=fun z c hc=>by simp only [List.head?_cons,qa] at hc; subst hc; rfl
 have rc:rng c:=⟨by omega,c2⟩
 have rc':rng c':=⟨by omega,c2'⟩
 obtain ⟨d,r,e,hd,_⟩:=z38 c1 c2;obtain ⟨d',r',e',hd',_⟩:=z38 c1' c2';rw [z7I,z7I] at h;simp only at h;by_cases l0:l=[]
 ·rw [if_pos l0] at h;by_cases l0':l'=[]
  ·rw [if_pos l0'] at h;obtain ⟨q1,q2⟩:=zwj rc rc' (hu.noDig dg) (hv.noDig dg) h;exact ⟨by rw [q1,l0,l0'],q2⟩
  ·rw [if_neg l0'] at h;by_cases k':c'=1
   ·rw [if_pos k'] at h;obtain ⟨d2,r2,e2,hd2⟩:=zFq l0' h2;rw [e,e2] at h;simp only [List.cons_append,qj] at h;rw [h.1,hd2] at hd; cases hd
   ·rw [if_neg k',List.append_assoc] at h;obtain ⟨q1,q2⟩:=zwj rc rc' (hu.noDig dg) (d42 _) h;rw [q2] at hu;exact (hu.cons_ne n42).elim
 ·rw [if_neg l0] at h;by_cases k:c=1
  ·rw [if_pos k] at h;obtain ⟨d2,r2,e2,hd2⟩:=zFq l0 h1;by_cases l0':l'=[]
   ·rw [if_pos l0',e2,e'] at h;simp only [List.cons_append,qj] at h;rw [← h.1,hd2] at hd'; cases hd'
   ·rw [if_neg l0'] at h;by_cases k':c'=1
    ·rw [if_pos k'] at h;obtain ⟨q1,q2⟩:=z3O hA l0 l0' h1 h2 hu hv h;exact ⟨by rw [q1,k,k'],q2⟩
    ·rw [if_neg k',e2,e'] at h;simp only [List.cons_append,qj] at h;rw [← h.1,hd2] at hd'; cases hd'
  ·rw [if_neg k,List.append_assoc] at h;by_cases l0':l'=[]
   ·rw [if_pos l0'] at h;obtain ⟨q1,q2⟩:=zwj rc rc' (d42 _) (hv.noDig dg) h;rw [← q2] at hv;exact (hv.cons_ne n42).elim
   ·rw [if_neg l0'] at h;by_cases k':c'=1
    ·rw [if_pos k'] at h;obtain ⟨d2,r2,e2,hd2⟩:=zFq l0' h2;rw [e,e2] at h;simp only [List.cons_append,qj] at h;rw [h.1,hd2] at hd; cases hd
    ·rw [if_neg k',List.append_assoc] at h;obtain ⟨q1,q2⟩:=zwj rc rc' (d42 _) (d42 _) h;simp only [List.cons_append,qj,true_and] at q2;obtain ⟨q3,q4⟩:=z3O hA l0 l0' h1 h2 hu hv q2;exact ⟨by rw [q1,q3],q4⟩
theorem zbcM {V:yC→Bool} {t:Term} (ht:gT V t):∃ c r,txT t=c::r∧c≠48:=by
 obtain ⟨⟨c1,c2⟩,h1⟩:=ht;obtain ⟨d,r,e,hd,h48⟩:=z38 c1 c2;rw [z7I];by_cases l0:t.Factors=[]
 ·rw [if_pos l0]; exact ⟨d,r,e,h48⟩
 ·rw [if_neg l0];split
  ·obtain ⟨d2,r2,e2,hd2⟩:=zFq l0 h1;exact ⟨d2,r2,e2,fun e=>by rw [e] at hd2; revert hd2; decide⟩
  ·exact ⟨d,_,by rw [e]; rfl,h48⟩
theorem zbfK {V:yC→Bool} (hA:RdA V) {a b:yC} (ha:∀ t∈a,gT V t) (hb:∀ t∈b,gT V t) {u v:List UInt8} (hu:hd SN u) (hv:hd SN v) (h:txN a++u=txN b++v):a=b∧u=v:=by
 have en:∀ z:yC,z≠[]→txN z=zeQ (z.map txT) [32,43,32]:=fun z hz=>by
  unfold txN zRl; rw [zSj,if_neg (by simpa using hz)]
 have e0:txN []=[48]:=by unfold txN zRl; rw [txTs,if_pos rfl]
 have h48:∀ z:yC,z≠[]→(∀ t∈z,gT V t)→∃ c r,txN z=c::r∧c≠48:=fun z hz hg=>by
  rw [en z hz];cases z with
  | nil=>exact absurd rfl hz
  | cons t r=>
   obtain ⟨c,s,e,hc⟩:=zbcM (hg t (by simp))
   cases r with
   | nil=>exact ⟨c,s,by simp only [List.map,zeQ]; exact e,hc⟩
   | cons t' r=>exact ⟨c,_,by simp only [List.map,zeQ]; rw [e]; rfl,hc⟩
 by_cases a0:a=[]
 ·by_cases b0:b=[]
  ·rw [a0,b0] at h;exact ⟨by rw [a0,b0],List.append_cancel_left h⟩
  ·obtain ⟨c,r,e,hc⟩:=h48 b b0 hb;rw [a0,e0,e] at h;simp only [List.cons_append,qj] at h;exact absurd h.1.symm hc
 ·by_cases b0:b=[]
  ·obtain ⟨c,r,e,hc⟩:=h48 a a0 ha;rw [b0,e0,e] at h;simp only [List.cons_append,qj] at h;exact absurd h.1 hc
  ·rw [en a a0,en b b0] at h;exact zNp txT SN 32 [43,32] (gT V) (by decide) (fun x y px py u v hu hv e=>zbfk hA px py hu hv e) a b a0 b0 ha hb u v hu hv h
theorem zbcJ:∀ m,RdN (zbB m)∧RdA (zbB m):=by
 intro m;induction m with
 | zero=>
  have:RdN (zbB 0):=fun a b ha=>by cases ha
  exact ⟨this,zbbM this⟩
 | succ m ih=>
  have:RdN (zbB (m+1)):=fun a b ha hb wa wb u v hu hv h=>by
   have key:∀ z,zbB (m+1) z=true→zgr z→∀ t∈z,gT (zbB m) t:=fun z hz wz t ht=>by
    obtain ⟨⟨c1,c2⟩,hok⟩:=zwv hz ht;have hwt:=zom (zwH (ztS wz t ht)).2.1;exact ⟨⟨c1,by omega⟩,fun f hf=>⟨(zpE hok hf).2,(zrz (hwt f hf)).1,zmI (zrz (hwt f hf)).2⟩⟩
   exact zbfK ih.2 (key a ha wa) (key b hb wb) hu hv h
  exact ⟨this,zbbM this⟩
theorem zbdW {m:Nat} {l l':yD} (h1:∀ f∈l,gF (zbB m) f) (h2:∀ f∈l',gF (zbB m) f) (h:txL l=txL l'):l=l':=by
 have e0:txL []=[]:=by unfold txL; rw [txFs]; rfl
 by_cases l0:l=[]
 ·by_cases l0':l'=[]
  ·rw [l0,l0']
  ·obtain ⟨c,r,e,_⟩:=zFq l0' h2;rw [l0,e0,e] at h; cases h
 ·by_cases l0':l'=[]
  ·obtain ⟨c,r,e,_⟩:=zFq l0 h1;rw [l0',e0,e] at h; cases h
  ·exact (z3O (zbcJ m).2 l0 l0' h1 h2 (u:=[]) (v:=[]) (fun c hc=>by cases hc) (fun c hc=>by cases hc) (by rw [h])).1
end Go.Proofs.YtljlfiomikifjaaGreatDoor
end
