/- Texts of this claim, joined (the program, its functions in plain words, and what they compute). -/
import Derived.Test.YtljlfiomikifjaaGreatDoorGC7
set_option autoImplicit false
set_option linter.unusedVariables false
set_option linter.unusedSectionVars false
set_option linter.unusedSimpArgs false
set_option maxRecDepth 1000000
set_option maxHeartbeats 0
/- Which annotations are valid: both sides compute the same. -/
noncomputable section
namespace Go.Proofs.YtljlfiomikifjaaGreatDoor
open Go Go.Ab
def rz (r:RowID):Bool:=r.Table==(0:Int)&&(r.Seq==(0:Int)&&true)
def zpQ (V:yC→Bool) (l:yA):Bool:=l.all fun a=>V a&& !(a.length==0)
def zAy (V:yC→Bool) (l:yE):Bool:=l.all fun w=>V w.Ann&& !(w.Ann.length==0)
def zHu (r:RowID):Bool:=decide (r.Table≥1)&&decide (r.Seq≥1)
def zDE (p:yC→Bool):yA→Bool
 | [a]=>p a
 | _=>false
def zYM (p:yC→yC→Bool):yA→Bool
 | [a,b]=>p a b
 | _=>false
def zhv (V:yC→Bool) (x:Atom):Bool:=
 zpQ V x.Args&&
 if x.Kind=0 then plA x&&zHu x.Row&&(x.Args.length==0)
 else rz x.Row&&
  if x.Kind=1 then plA x&&zYM (fun a b=> !decide (a=b)) x.Args
  else if x.Kind=2 then plA x&&zDE (fun a=> !isC a&& !isU a) x.Args
  else if x.Kind=3 then plA x&&zDE (fun a=> !hasC a) x.Args
  else if x.Kind=4 then (x.Args.length==0)&&decide (0<x.Items.length)&&zAy V x.Items&&srtW x.Items&&fitK x.Func x.Items x.Op x.Bound
  else false
def chkF (vat:Atom→Bool) (fs:yD) (k:Nat):Bool:=
 decide (1≤(fs.getD k default).Exp)&& !(((fs.getD k default).Atom.Kind==3||(fs.getD k default).Atom.Kind==4)&&(fs.getD k default).Exp != 1)&&
  (decide (k=0)||decide (cmpT (zdI (fs.getD (k - 1) default).Atom) (zdI (fs.getD k default).Atom)<0))&&vat (fs.getD k default).Atom
def okF (vat:Atom→Bool) (fs:yD):Bool:=allN (chkF vat fs) fs.length 0
def chkT (vat:Atom→Bool) (a:yC) (i:Nat):Bool:=
 decide (1≤(a.getD i default).Coeff)&&decide ((a.getD i default).Coeff≤1152921504606846976)&&
  (decide (i=0)||decide (cmpL (zbF (a.getD (i - 1) default).Factors) (zbF (a.getD i default).Factors)<0))&&okF vat (a.getD i default).Factors
def vAnn (vat:Atom→Bool) (a:yC):Bool:=zlI a&&allN (chkT vat a) a.length 0
def zc3:Nat→yC→Bool
 | 0,_=>false
 | n+1,a=>vAnn (zhv (zc3 n)) a
theorem zY5 (r:RowID):zpw r=(true,zHu r):=by
 unfold zpw zM4 zHu;rw [Wy.fin_i,Wy.fin_k,Wy.fin_k];cases decide (r.Table≥1) <;>rfl
theorem zBu {V:yC→Bool} {x:Atom} (h:zhv V x=true):0≤x.Kind∧x.Kind≤4:=by
 unfold zhv at h;by_cases h0:x.Kind=0
 ·omega
 by_cases h1:x.Kind=1
 ·omega
 by_cases h2:x.Kind=2
 ·omega
 by_cases h3:x.Kind=3
 ·omega
 by_cases h4:x.Kind=4
 ·omega
 simp [h0,h1,h2,h3,h4] at h
theorem zBg (l k:Nat):((Int.ofNat l)==(k:Int))=(l==k):=by
 rw [beqd,beqn]; congr 1; simp; omega
section
variable (V:yC→Bool) (gW:yE→Bool×Bool) (gA:yA→Bool×Bool) (c1:yC→Bool×Bool) (c2:Weighted→Bool×Bool)
theorem zZW (x:Atom) {d:Nat} (hx:zds (zA d) x) (hd:d≤99) (hA:gA x.Args=(true, !zpQ V x.Args)) (hW:gW x.Items=(true, !zAy V x.Items)):
  ziD gA c1 gW c2 x=(true,zhv V x):=by
 have hS:=z4d x.Items hx.1.2.1 (fun w hw=>(hx.2.2 w hw).2) hd
 have hF:=z5t x.Func x.Items x.Op x.Bound hx.1.2.1;have hE:∀ a∈x.Args,∀ b,zgX a b=(true,decide (a=b)):=fun a ha b=>zCp (hx.2.1 a ha) (by omega) b
 have hC:∀ a∈x.Args,zex a=(true,hasC a):=fun a ha=>z0I a (by
  have:=hx.2.1 a ha;cases d with
  | zero=>exact this.elim
  | succ d=>have:=this.1; omega)
 obtain ⟨k,r,l,f,its,o,b⟩:=x;simp only at hA hW hS hF hE hC;unfold ziD zbZ zhv plA;simp only [zY5,hA,hW,hS,hF,Wy.fin_i,Wy.fin_k,Wy.fin_bn,cond_true]
 rw [show (b.Kind==(0:Int)&&(b.Int==(0:Int)&&(b.Text.toList==(ByteArray.mk #[]).toList&&true)))=bz b from rfl,
  show (r.Table==(0:Int)&&(r.Seq==(0:Int)&&true))=rz r from rfl,
  show (Int.ofNat its.length != 0)= !(its.length==0) from congrArg not (zBg its.length 0),show (f != 0)= !(f==0) from rfl,show (o != 0)= !(o==0) from rfl]
 generalize zpQ V l=A at *;generalize zAy V its=W at *;generalize bz b=B at *;generalize (f==0)=F at *;generalize (o==0)=O at *;generalize rz r=R at *;generalize zHu r=RO at *;generalize srtW its=S at *;generalize fitK f its o b=K at *;have hgt:decide (Int.ofNat its.length>0)=decide (0<its.length):=ztQ its.length 0;rw [hgt];generalize (its.length==0)=I at *;generalize decide (0<its.length)=J at *;by_cases h0:k=0
 ·subst h0;simp only [zBg,show ((Int.ofNat l.length)==(0:Int))=(l.length==0) from zBg l.length 0]
  generalize (l.length==0)=L;cases F <;>cases I <;>cases O <;>cases B <;>cases A <;>cases RO <;>rfl
 by_cases h1:k=1
 ·subst h1
  match l,hE with
  | [],_=>cases F <;>cases I <;>cases O <;>cases B <;>cases A <;>cases R <;>rfl
  | [u],_=>cases F <;>cases I <;>cases O <;>cases B <;>cases A <;>cases R <;>rfl
  | [u,v],hE=>
   have e:=hE u (by simp) v
   simp only [List.getD,qf,List.length_nil,Int.toNat_zero,List.getElem?_cons_zero,List.getElem?_cons_succ,Option.getD,show Int.toNat 1=1 from rfl,zYM]
   simp only [e];generalize decide (u=v)=E;cases F <;>cases I <;>cases O <;>cases B <;>cases A <;>cases R <;>rfl
  | u::v::w::l,_=>
   have e:((Int.ofNat (u::v::w::l).length)==(2:Int))=false:=by rw [beq_eq_false_iff_ne]; simp; omega
   simp only [e];cases F <;>cases I <;>cases O <;>cases B <;>cases A <;>cases R <;>rfl
 by_cases h2:k=2
 ·subst h2
  match l with
  | []=>cases F <;>cases I <;>cases O <;>cases B <;>cases A <;>cases R <;>rfl
  | [u]=>
   simp only [List.getD,qf,List.length_nil,Int.toNat_zero,List.getElem?_cons_zero,Option.getD,zDE,z10,z6B];generalize isC u=E;generalize isU u=E';cases F <;>cases I <;>cases O <;>cases B <;>cases A <;>cases R <;>cases E <;>cases E' <;>rfl
  | u::v::l=>
   simp only [len2];cases F <;>cases I <;>cases O <;>cases B <;>cases A <;>cases R <;>rfl
 by_cases h3:k=3
 ·subst h3
  match l,hC with
  | [],_=>cases F <;>cases I <;>cases O <;>cases B <;>cases A <;>cases R <;>rfl
  | [u],hC=>
   have e:=hC u (by simp)
   simp only [List.getD,qf,List.length_nil,Int.toNat_zero,List.getElem?_cons_zero,Option.getD,zDE];simp only [e];generalize hasC u=E;cases F <;>cases I <;>cases O <;>cases B <;>cases A <;>cases R <;>cases E <;>rfl
  | u::v::l,_=>
   simp only [len2];cases F <;>cases I <;>cases O <;>cases B <;>cases A <;>cases R <;>rfl
 by_cases h4:k=4
 ·subst h4;simp only [show ((Int.ofNat l.length)==(0:Int))=(l.length==0) from zBg l.length 0]
  generalize (l.length==0)=L;cases A <;>cases W <;>cases L <;>cases J <;>cases S <;>cases K <;>cases R <;>rfl
 simp only [beqd,h0,h1,h2,h3,h4,decide_false,if_false,cond_false];cases F <;>cases I <;>cases O <;>cases B <;>cases A <;>cases R <;>rfl
end
section
variable (V:yC→Bool) (g:yC→Bool×Bool)
theorem zban (x:Atom) (hl:x.Args.length≤1000000) (hg:∀ a∈x.Args,g a=(true,V a)) (n:Nat) (hn:x.Args.length<n):zu2 g n 0 x=(true,bif zpQ V x.Args then .inr x else .inl false):=by
 have:=zlO (W:=zvk g) (z:=.inl default) x.Args.length (fun i=>((),(i:Int),())) (fun _=>(x,())) (fun i=>(fun a:yC=>V a&& !(a.length==0)) (x.Args.getD i default)) (.inl false) (.inr x)
  (fun i hi H K D=>by
   show (zj1 g i x).ev H K D=_;unfold zj1;have hL:decide ((i:Int)<Int.ofNat x.Args.length)=true:=by simp [hi]
   simp only [Wy.ev_i,Wy.ev_k,Wy.ev_h,Wy.ev_bn,Wy.ev_d,hL,zgp,Bool.and_self,cond_true,Int.toNat_natCast,hg _ (zS hi)];rw [zbV (by omega),show (Int.ofNat (x.Args.getD i default).length==(0:Int))=((x.Args.getD i default).length==0) from zBg _ 0]
   cases V (x.Args.getD i default) <;>cases ((x.Args.getD i default).length==0) <;>rfl)
  (fun H K D=>by
   show (zj1 g x.Args.length x).ev H K D=_;unfold zj1;have hL:decide ((x.Args.length:Int)<Int.ofNat x.Args.length)=false:=by simp
   simp only [Wy.ev_i,Wy.ev_k,hL,cond_false]) n hn
 rw [zAB (fun a:yC=>V a&& !(a.length==0))] at this
 exact this
theorem z8n {τ:Type} [Inhabited τ] (l:List τ) (i:Nat) (h:i<l.length):List.take 1 (List.drop i l)=[l.getD i default]:=by
 rw [zbT h]; rfl
theorem zbaE (x y:TT):cmpL [x] [y]=cmpT x y:=by
 simp only [cmpL];split
 ·rename_i h; exact h.symm
 ·rfl
theorem z9y (x:Atom) {d:Nat} (hx:zds (zA d) x) (hd:d≤99) (hg:∀ a∈x.Items,g a.Ann=(true,V a.Ann)) (n:Nat) (hn:x.Items.length<n):zAr g n 0 x=(true,bif zAy V x.Items&&srtW x.Items then .inr () else .inl false):=by
 have hl:x.Items.length≤1000000:=hx.1.2.1
 have:=zlO (W:=ztL g) (z:=.inl default) x.Items.length (fun i=>((),(i:Int),())) (fun _=>(x,())) (fun i=>(fun w:Weighted=>V w.Ann&& !(w.Ann.length==0)) (x.Items.getD i default)&&srtI x.Items i) (.inl false) (.inr ())
  (fun i hi H K D=>by
   show (zjv g i x).ev H K D=_;unfold zjv;have hL:decide ((i:Int)<Int.ofNat x.Items.length)=true:=by simp [hi]
   simp only [Wy.ev_i,Wy.ev_k,Wy.ev_h,Wy.ev_bn,Wy.ev_d,hL,zgp,Bool.and_self,cond_true,Int.toNat_natCast,hg _ (zS hi)];rw [zbV (by omega),show (Int.ofNat (x.Items.getD i default).Ann.length==(0:Int))=((x.Items.getD i default).Ann.length==0) from zBg _ 0]
   cases V (x.Items.getD i default).Ann <;>cases ((x.Items.getD i default).Ann.length==0) <;>try rfl
   simp only [cond_true,cond_false,Bool.not_true,Bool.not_false,Bool.and_self,Bool.true_and];cases i with
   | zero=>rfl
   | succ i=>
    have hi':i<x.Items.length:=by omega
    have hw:IntKind.i64.wrap (((i+1:Nat):Int) - 1)=(i:Int):=by rw [zxu (by omega) (by omega)]; rfl
    have e1:(decide ((0:Int)≤(i:Int))&&decide ((i:Int)≤((i+1:Nat):Int))&&decide (((i+1:Nat):Int)≤Int.ofNat x.Items.length))=true:=by
     simp; try omega
    have e2:(decide (((i+1:Nat):Int)≤((i+1+1:Nat):Int))&&decide (((i+1+1:Nat):Int)≤Int.ofNat x.Items.length))=true:=by
     simp; try omega
    have e3:decide (((i+1:Nat):Int)>0)=true:=by simp; try omega
    simp only [hw,e1,e2,e3,cond_true,Bool.true_and,Int.toNat_natCast,show i+1 - i=1 by omega,show i+1+1 - (i+1)=1 by omega,z8n _ _ hi,z8n _ _ hi']
    rw [zNw (d:=d) (by simp) (fun w hw=>by
     rw [qh] at hw; subst hw; exact (hx.2.2 _ (zS hi')).2) hd,zsl,zsl]
    simp only [List.map,zbaE,cond_true,srtI,show i+1 - 1=i from rfl]
    have e4:decide (i+1=0)=false:=by simp
    rw [e4,Bool.false_or];generalize cmpT (zfE (x.Items.getD i default)) (zfE (x.Items.getD (i+1) default))=z;by_cases hz:z>0
    ·have:¬ z≤0:=by omega
     simp only [hz,this,decide_true,decide_false,cond_true,cond_false]
    ·have:z≤0:=by omega
     simp only [hz,this,decide_true,decide_false,cond_true,cond_false])
  (fun H K D=>by
   show (zjv g x.Items.length x).ev H K D=_;unfold zjv;have hL:decide ((x.Items.length:Int)<Int.ofNat x.Items.length)=false:=by simp
   simp only [Wy.ev_i,Wy.ev_k,hL,cond_false]) n hn
 rw [z3x (fun i=>(fun w:Weighted=>V w.Ann&& !(w.Ann.length==0)) (x.Items.getD i default)),zAB (fun w:Weighted=>V w.Ann&& !(w.Ann.length==0))] at this
 exact this
theorem zZV {A ρ:Type} (s:A) (k:A→Wy0 ρ) (z:ρ):(Wy.bn (true,s) k).fin z=(k s).fin z:=rfl
theorem zYh (x:Atom) {d:Nat} (hx:zds (zA d) x) (hd:d≤99) (h10:x.Items.length≤1024) (hV:∀ a,V a=true→isB a=isU a) (hgA:∀ a∈x.Args,g a=(true,V a)) (hgI:∀ a∈x.Items,g a.Ann=(true,V a.Ann)):
  znH g x=(true,zhv V x):=by
 have hS:=fun n hn=>z9y V g x hx hd hgI n hn
 have hA:=fun n hn=>zban V g x hx.1.1 hgA n hn
 have hF:=z8c x.Func x.Items x.Op x.Bound hx.1.2.1;have hE:∀ a∈x.Args,∀ b,zuT a b=(true,decide (a=b)):=fun a ha b=>z1n (hx.2.1 a ha) (by omega) b
 have hC:∀ a∈x.Args,zjy a=(true,hasC a):=fun a ha=>zUq a (by
  have:=hx.2.1 a ha;cases d with
  | zero=>exact this.elim
  | succ d=>have:=this.1; omega)
 have hP:=z8e x;unfold znH zCf zhv;obtain ⟨s,hs1,hs2⟩:∃ s,zu2 g (Int.toNat (0:Int)+x.Args.length+x.Items.length+(1:Nat)) 0 x=(true,s)∧s=bif zpQ V x.Args then .inr x else .inl false:=⟨_,hA _ (by omega),rfl⟩
 rw [Atom.eta,hP,hs1];simp only [Wy.fin_i,Wy.fin_k,zZV];simp only [Wy.fin_i,Wy.fin_k,Wy.fin_bn,cond_true];rw [show (x.Row.Table==(0:Int)&&(x.Row.Seq==(0:Int)&&true))=rz x.Row from rfl]
 have b0:(x.Kind==(0:Int))=decide (x.Kind=0):=beqd _ _;have b1:(x.Kind==(1:Int))=decide (x.Kind=1):=beqd _ _;have b2:(x.Kind==(2:Int))=decide (x.Kind=2):=beqd _ _;have b3:(x.Kind==(3:Int))=decide (x.Kind=3):=beqd _ _;have b4:(x.Kind==(4:Int))=decide (x.Kind=4):=beqd _ _;by_cases h0:x.Kind=0
 ·rw [b0];simp only [h0,decide_true,cond_true,if_true];rw [show (Int.ofNat x.Args.length==(0:Int))=(x.Args.length==0) from zBg _ 0]
  unfold zHu
  match hl:x.Args with
  | []=>cases decide (x.Row.Table≥1) <;>cases decide (x.Row.Seq≥1) <;>cases plA x <;>rfl
  | u::l=>cases decide (x.Row.Table≥1) <;>cases decide (x.Row.Seq≥1) <;>cases plA x <;>cases zpQ V (u::l) <;>rfl
 rw [b0];simp only [h0,decide_false,cond_false,if_false];cases hA:zpQ V x.Args with
 | false=>rw [hs2,hA]; cases rz x.Row <;>rfl
 | true=>
 rw [hA,cond_true] at hs2;have hy:getR s=x:=by rw [hs2]; rfl
 have hy2:isL s=false:=by rw [hs2]; rfl
 rw [hy2];generalize getR s=y at hy ⊢;subst hy;cases rz y.Row with
 | false=>rfl
 | true=>
 simp only [Bool.not_true,cond_false,cond_true,isL,getR,Bool.true_and,Atom.eta,hP,hF,b1,b2,b3,b4];by_cases h1:y.Kind=1
 ·simp only [h1,decide_true,cond_true,if_true]
  match hl:y.Args with
  | []=>cases plA y <;>rfl
  | [u]=>cases plA y <;>rfl
  | [u,v]=>
   have e:=hE u (by rw [hl]; simp) v
   simp only [List.getD,qf,List.length_nil,Int.toNat_zero,List.getElem?_cons_zero,List.getElem?_cons_succ,Option.getD,show Int.toNat 1=1 from rfl,zYM]
   simp only [e];generalize decide (u=v)=E;cases plA y <;>rfl
  | u::v::w::l=>
   have e:((Int.ofNat (u::v::w::l).length)==(2:Int))=false:=by rw [beq_eq_false_iff_ne]; simp; omega
   simp only [e];cases plA y <;>rfl
 simp only [h1,decide_false,cond_false,if_false];by_cases h2:y.Kind=2
 ·simp only [h2,decide_true,cond_true,if_true]
  match hl:y.Args with
  | []=>cases plA y <;>rfl
  | [u]=>
   have e:=hC u (by rw [hl]; simp)
   have eV:V u=true:=by
    rw [hl] at hA;unfold zpQ at hA;simp at hA;exact hA.1
   simp only [List.getD,qf,List.length_nil,Int.toNat_zero,List.getElem?_cons_zero,Option.getD,zDE,zZm,e,hV u eV]
   match u with
   | []=>cases plA y <;>rfl
   | [t]=>
    have e1:hasC [t]=(t.Factors.length==0):=by simp [hasC]
    have e2:isC [t]=(t.Factors.length==0):=rfl;rw [e1,e2];cases plA y <;>cases (t.Factors.length==0) <;>cases isU [t] <;>rfl
   | t::s::r=>
    simp only [len2];cases plA y <;>rfl
  | u::v::l=>
   simp only [len2];cases plA y <;>rfl
 simp only [h2,decide_false,cond_false,if_false];by_cases h3:y.Kind=3
 ·simp only [h3,decide_true,cond_true,if_true]
  match hl:y.Args with
  | []=>cases plA y <;>rfl
  | [u]=>
   have e:=hC u (by rw [hl]; simp)
   simp only [List.getD,qf,List.length_nil,Int.toNat_zero,List.getElem?_cons_zero,Option.getD,zDE];simp only [e];cases plA y <;>cases hasC u <;>rfl
  | u::v::l=>
   simp only [len2];cases plA y <;>rfl
 simp only [h3,decide_false,cond_false,if_false];by_cases h4:y.Kind=4
 ·have e10:decide (Int.ofNat y.Items.length>(1024:Int))=false:=by simp; omega
  rw [hS _ (by omega)]
  rw [e10];simp only [h4,decide_true,cond_true,if_true,cond_false];rw [show (Int.ofNat y.Args.length != (0:Int))= !(y.Args.length==0) from congrArg not (zBg y.Args.length 0),show (Int.ofNat y.Items.length==(0:Int))=(y.Items.length==0) from zBg y.Items.length 0]
  have e11:decide (0<y.Items.length)= !(y.Items.length==0):=by
   rw [beqn];by_cases h:y.Items.length=0
   ·simp [h]
   ·have:0<y.Items.length:=by omega
    simp [h,this]
  rw [e11];cases (y.Args.length==0) <;>cases (y.Items.length==0) <;>cases fitK y.Func y.Items y.Op y.Bound <;>cases zAy V y.Items <;>cases srtW y.Items <;>rfl
 simp only [h4,decide_false,cond_false,if_false]
end
section
variable (V:yC→Bool) (vat:Atom→Bool)
theorem V_9 (g:Atom→Bool×Bool) (a t10:yC) (t11 t12:Int) (t:Term) {d:Nat} (ht:zdK (zA d) t.Factors) (hd:d≤99) (hg:∀ f∈t.Factors,g f.Atom=(true,vat f.Atom)) (n:Nat) (hn:t.Factors.length<n):
  ztN g n a t10 t11 t12 t.Factors t.Factors.length 0 t=(true,bif okF vat t.Factors then .inr (a,t10,t11,t12) else .inl false):=by
 have hl:=ht.1
 exact zlO (W:=zti g) (z:=.inl default) t.Factors.length (fun k=>(a,(),t10,t11,t12,t.Factors,(t.Factors.length:Int),(k:Int),())) (fun _=>(t,())) (chkF vat t.Factors) (.inl false) (.inr (a,t10,t11,t12))
  (fun k hk H K D=>by
   show (zjg g a t10 t11 t12 t.Factors t.Factors.length k t).ev H K D=_;unfold zjg chkF
   have hgt:decide ((k:Int)>0)= !decide (k=0):=by
    by_cases h:k=0
    ·subst h; rfl
    ·have:0<k:=by omega
     simp [h,this]
   simp only [Atom.eta,Wy.ev_i,Wy.ev_k,Wy.ev_h,Wy.ev_bn,Wy.ev_d,tT,hk,z4D,hg _ (zS hk),hgt];rw [zbV (by omega)]
   have e1:decide ((t.Factors.getD k default).Exp<1)= !decide (1≤(t.Factors.getD k default).Exp):=by
    by_cases h:1≤(t.Factors.getD k default).Exp
    ·have:¬ (t.Factors.getD k default).Exp<1:=by omega
     simp only [h,this,decide_true,decide_false,Bool.not_true]
    ·have:(t.Factors.getD k default).Exp<1:=by omega
     simp only [h,this,decide_true,decide_false,Bool.not_false]
   rw [e1];generalize decide (1≤(t.Factors.getD k default).Exp)=E1;generalize ((t.Factors.getD k default).Exp != 1)=E2;generalize ((t.Factors.getD k default).Atom.Kind==3||(t.Factors.getD k default).Atom.Kind==4)=E3;by_cases h0:k=0
   ·simp only [h0,decide_true,Bool.not_true,cond_false,Bool.true_or,Bool.and_true];cases E1 <;>cases E2 <;>cases E3 <;>cases vat (t.Factors.getD 0 default).Atom <;>rfl
   ·have hp:IntKind.i64.wrap ((k:Int) - 1)=((k - 1:Nat):Int):=zxu (by omega) (by omega)
    have hk':k - 1<t.Factors.length:=by omega
    have hfx:zds (zA d) (t.Factors.getD (k - 1) default).Atom:=ht.2 _ (zS hk')
    have e2:∀ z:Int,decide (z≥0)= !decide (z<0):=fun z=>by
     by_cases h:z<0
     ·have:¬ z≥0:=by omega
      simp [h,this]
     ·have:z≥0:=by omega
      simp [h,this]
    simp only [h0,hp,tT,hk',zFR hfx hd,e2,Bool.false_or];generalize decide (cmpT (zdI (t.Factors.getD (k - 1) default).Atom) (zdI (t.Factors.getD k default).Atom)<0)=E4;cases E1 <;>cases E2 <;>cases E3 <;>cases E4 <;>cases vat (t.Factors.getD k default).Atom <;>rfl)
  (fun H K D=>by
   show (zjg g a t10 t11 t12 t.Factors t.Factors.length t.Factors.length t).ev H K D=_;unfold zjg;simp only [Wy.ev_i,Wy.ev_k,tT,Nat.lt_irrefl]) n hn
theorem V_4 (g:Atom→Bool×Bool) (a:yC) {d:Nat} (h:zA (d+1) a) (hd:d≤99) (hg:∀ t∈a,∀ f∈t.Factors,g f.Atom=(true,vat f.Atom)) (n:Nat) (hn:a.length<n):
  zAu g n a a a.length 0=(true,bif allN (chkT vat a) a.length 0 then .inr () else .inl false):=by
 have hl:=h.1
 exact zlO (W:=zs6 g) (z:=.inl default) a.length (fun k=>(a,a,(a.length:Int),(k:Int),())) (fun _=>()) (chkT vat a) (.inl false) (.inr ())
  (fun k hk H K D=>by
   show (zjs g a a a.length k).ev H K D=_;unfold zjs chkT;have ht:=h.2 _ (zS hk)
   have hgt:decide ((k:Int)>0)= !decide (k=0):=by
    by_cases h:k=0
    ·subst h; rfl
    ·have:0<k:=by omega
     simp [h,this]
   simp only [Atom.eta,Wy.ev_i,Wy.ev_k,Wy.ev_h,Wy.ev_bn,Wy.ev_d,tT,hk,hgt];rw [V_9 vat g a a a.length k _ ht hd (hg _ (zS hk)) _ (by omega)]
   have e1:decide ((a.getD k default).Coeff<1)= !decide (1≤(a.getD k default).Coeff):=by
    by_cases h:1≤(a.getD k default).Coeff
    ·have:¬ (a.getD k default).Coeff<1:=by omega
     simp only [h,this,decide_true,decide_false,Bool.not_true]
    ·have:(a.getD k default).Coeff<1:=by omega
     simp only [h,this,decide_true,decide_false,Bool.not_false]
   have e3:decide ((a.getD k default).Coeff>1152921504606846976)= !decide ((a.getD k default).Coeff≤1152921504606846976):=by
    by_cases h:(a.getD k default).Coeff≤1152921504606846976
    ·have:¬ (a.getD k default).Coeff>1152921504606846976:=by omega
     simp only [h,this,decide_true,decide_false,Bool.not_true]
    ·have:(a.getD k default).Coeff>1152921504606846976:=by omega
     simp only [h,this,decide_true,decide_false,Bool.not_false]
   rw [e1,e3];generalize decide (1≤(a.getD k default).Coeff)=E1;generalize decide ((a.getD k default).Coeff≤1152921504606846976)=E2;by_cases h0:k=0
   ·subst h0;simp only [decide_true,Bool.not_true,cond_false,Bool.true_or,Bool.and_true];cases okF vat (a.getD 0 default).Factors <;>cases E1 <;>cases E2 <;>try rfl
   ·have hp:IntKind.i64.wrap ((k:Int) - 1)=((k - 1:Nat):Int):=zxu (by omega) (by omega)
    have hk':k - 1<a.length:=by omega
    have hfx:zdK (zA d) (a.getD (k - 1) default).Factors:=h.2 _ (zS hk')
    have e2:∀ z:Int,decide (z≥0)= !decide (z<0):=fun z=>by
     by_cases h:z<0
     ·have:¬ z≥0:=by omega
      simp [h,this]
     ·have:z≥0:=by omega
      simp [h,this]
    simp only [h0,hp,tT,hk',zFZ hfx hd,e2,Bool.false_or];generalize decide (cmpL (zbF (a.getD (k - 1) default).Factors) (zbF (a.getD k default).Factors)<0)=E4;cases okF vat (a.getD k default).Factors <;>cases E1 <;>cases E2 <;>cases E4 <;>try rfl
    simp only [cond_true,cond_false,Bool.not_true,isL,getR,Bool.and_self];rw [zbV (by omega),decide_eq_false (show ¬ ((k - 1:Nat):Int)<0 by omega)]; rfl)
  (fun H K D=>by
   show (zjs g a a a.length a.length).ev H K D=_;unfold zjs;simp only [Wy.ev_i,Wy.ev_k,tT,Nat.lt_irrefl]) n hn
theorem z6a (g:Atom→Bool×Bool) (a:yC) {d:Nat} (h:zA (d+1) a) (hd:d≤99) (hs:zT a≤4611686018427387904) (hg:∀ t∈a,∀ f∈t.Factors,g f.Atom=(true,vat f.Atom)):zl3 g a=(true,vAnn vat a):=by
 unfold zl3 zAS vAnn;have:=V_4 vat g a h hd hg (a.length+a.length+(Int.ofNat a.length).toNat +Int.toNat (0:Int)+(1:Nat)) (by omega)
 rw [show Int.ofNat a.length=(a.length:Int) from rfl] at *
 simp only [Wy.fin_i,Wy.fin_k,Wy.fin_bn,z6Y h (by omega) hs,this,cond_true]
 cases zlI a <;>cases allN (chkT vat a) a.length 0 <;>rfl
theorem zbaz (g:Atom→Bool×Bool) (a:yC) (i:Int) (t:Term) {d:Nat} (ht:zdK (zA d) t.Factors) (hd:d≤99) (hg:∀ f∈t.Factors,g f.Atom=(true,vat f.Atom)) (hk:∀ x,vat x=true→0≤x.Kind∧x.Kind≤4) (n:Nat) (hn:t.Factors.length<n):
  zyW g n a i 0 t=(true,bif okF vat t.Factors then .inr (a,i) else .inl false):=by
 have hl:=ht.1
 exact zlO (W:=zyN g) (z:=.inl default) t.Factors.length (fun k=>(a,i,(),(k:Int),())) (fun _=>(t,())) (chkF vat t.Factors) (.inl false) (.inr (a,i))
  (fun k hk1 H K D=>by
   show (znb g a i k t).ev H K D=_;unfold znb chkF
   have hgt:decide ((k:Int)>0)= !decide (k=0):=by
    by_cases h:k=0
    ·subst h; rfl
    ·have:0<k:=by omega
     simp [h,this]
   simp only [Atom.eta,Wy.ev_i,Wy.ev_k,Wy.ev_h,Wy.ev_bn,Wy.ev_d,tT,hk1,hg _ (zS hk1),hgt];rw [zbV (by omega)]
   have hk2:=hk (t.Factors.getD k default).Atom
   have e1:decide ((t.Factors.getD k default).Exp<1)= !decide (1≤(t.Factors.getD k default).Exp):=by
    by_cases h:1≤(t.Factors.getD k default).Exp
    ·have:¬ (t.Factors.getD k default).Exp<1:=by omega
     simp only [h,this,decide_true,decide_false,Bool.not_true]
    ·have:(t.Factors.getD k default).Exp<1:=by omega
     simp only [h,this,decide_true,decide_false,Bool.not_false]
   rw [e1];by_cases hx1:1≤(t.Factors.getD k default).Exp
   rotate_left
   ·simp only [hx1,decide_false,Bool.not_false,cond_true,Bool.false_and,cond_false]
   cases hv:vat (t.Factors.getD k default).Atom with
   | false=>
    rw [Bool.and_false];cases decide (1≤(t.Factors.getD k default).Exp) <;>cases decide ((t.Factors.getD k default).Exp>1) <;>cases decide ((t.Factors.getD k default).Atom.Kind≥3) <;>rfl
   | true=>
   obtain ⟨k1,k2⟩:=hk2 hv
   have e5:((t.Factors.getD k default).Atom.Kind==3||(t.Factors.getD k default).Atom.Kind==4)=decide ((t.Factors.getD k default).Atom.Kind≥3):=by
    rw [beqd,beqd, ← Bool.decide_or];congr 1;apply propext; omega
   have e6:((t.Factors.getD k default).Exp != 1)=decide ((t.Factors.getD k default).Exp>1):=by
    rw [bne0, ← decide_not];congr 1;apply propext; omega
   rw [e5,e6];simp only [hx1,decide_true,Bool.not_true,cond_false,Bool.true_and];generalize decide ((t.Factors.getD k default).Exp>1)=E2;generalize decide ((t.Factors.getD k default).Atom.Kind≥3)=E3;by_cases h0:k=0
   ·simp only [h0,decide_true,Bool.not_true,cond_false,Bool.true_or,Bool.and_true];cases E2 <;>cases E3 <;>rfl
   ·have hp:IntKind.i64.wrap ((k:Int) - 1)=((k - 1:Nat):Int):=zxu (by omega) (by omega)
    have hk':k - 1<t.Factors.length:=by omega
    have hfx:zds (zA d) (t.Factors.getD (k - 1) default).Atom:=ht.2 _ (zS hk')
    have e2:∀ z:Int,decide (z≥0)= !decide (z<0):=fun z=>by
     by_cases h:z<0
     ·have:¬ z≥0:=by omega
      simp [h,this]
     ·have:z≥0:=by omega
      simp [h,this]
    simp only [h0,hp,tT,hk',zoj hfx hd,e2,Bool.false_or];generalize decide (cmpT (zdI (t.Factors.getD (k - 1) default).Atom) (zdI (t.Factors.getD k default).Atom)<0)=E4;cases E2 <;>cases E3 <;>cases E4 <;>rfl)
  (fun H K D=>by
   show (znb g a i t.Factors.length t).ev H K D=_;unfold znb;simp only [Wy.ev_i,Wy.ev_k,tT,Nat.lt_irrefl]) n hn
theorem RV_4 (g:Atom→Bool×Bool) (a:yC) {d:Nat} (h:zA (d+1) a) (hd:d≤99) (hg:∀ t∈a,∀ f∈t.Factors,g f.Atom=(true,vat f.Atom)) (hk:∀ x,vat x=true→0≤x.Kind∧x.Kind≤4) (n:Nat) (hn:a.length<n):
  zIU g n a 0=(true,bif allN (chkT vat a) a.length 0 then .inr () else .inl false):=by
 have hl:=h.1
 exact zlO (W:=zzP g) (z:=.inl default) a.length (fun k=>(a,(k:Int),())) (fun _=>()) (chkT vat a) (.inl false) (.inr ())
  (fun k hk1 H K D=>by
   show (zpb g a k).ev H K D=_;unfold zpb chkT;have ht:=h.2 _ (zS hk1)
   have hgt:decide ((k:Int)>0)= !decide (k=0):=by
    by_cases h:k=0
    ·subst h; rfl
    ·have:0<k:=by omega
     simp [h,this]
   simp only [Atom.eta,Wy.ev_i,Wy.ev_k,Wy.ev_h,Wy.ev_bn,Wy.ev_d,tT,hk1,hgt];rw [zbaz vat g a k _ ht hd (hg _ (zS hk1)) hk _ (by omega)]
   have e1:decide ((a.getD k default).Coeff<1)= !decide (1≤(a.getD k default).Coeff):=by
    by_cases h:1≤(a.getD k default).Coeff
    ·have:¬ (a.getD k default).Coeff<1:=by omega
     simp only [h,this,decide_true,decide_false,Bool.not_true]
    ·have:(a.getD k default).Coeff<1:=by omega
     simp only [h,this,decide_true,decide_false,Bool.not_false]
   have e3:decide ((a.getD k default).Coeff>1152921504606846976)= !decide ((a.getD k default).Coeff≤1152921504606846976):=by
    by_cases h:(a.getD k default).Coeff≤1152921504606846976
    ·have:¬ (a.getD k default).Coeff>1152921504606846976:=by omega
     simp only [h,this,decide_true,decide_false,Bool.not_true]
    ·have:(a.getD k default).Coeff>1152921504606846976:=by omega
     simp only [h,this,decide_true,decide_false,Bool.not_false]
   rw [e1,e3];generalize decide (1≤(a.getD k default).Coeff)=E1;generalize decide ((a.getD k default).Coeff≤1152921504606846976)=E2;by_cases h0:k=0
   ·subst h0;simp only [decide_true,Bool.not_true,cond_false,Bool.true_or,Bool.and_true];cases okF vat (a.getD 0 default).Factors <;>cases E1 <;>cases E2 <;>try rfl
   ·have hp:IntKind.i64.wrap ((k:Int) - 1)=((k - 1:Nat):Int):=zxu (by omega) (by omega)
    have hk':k - 1<a.length:=by omega
    have hfx:zdK (zA d) (a.getD (k - 1) default).Factors:=h.2 _ (zS hk')
    have e2:∀ z:Int,decide (z≥0)= !decide (z<0):=fun z=>by
     by_cases h:z<0
     ·have:¬ z≥0:=by omega
      simp [h,this]
     ·have:z≥0:=by omega
      simp [h,this]
    simp only [h0,hp,tT,hk',zrl hfx hd,e2,Bool.false_or];generalize decide (cmpL (zbF (a.getD (k - 1) default).Factors) (zbF (a.getD k default).Factors)<0)=E4;cases okF vat (a.getD k default).Factors <;>cases E1 <;>cases E2 <;>cases E4 <;>try rfl
    simp only [cond_true,cond_false,Bool.not_true,isL,getR,Bool.and_self];rw [zbV (by omega),decide_eq_false (show ¬ ((k - 1:Nat):Int)<0 by omega)]; rfl)
  (fun H K D=>by
   show (zpb g a a.length).ev H K D=_;unfold zpb;simp only [Wy.ev_i,Wy.ev_k,tT,Nat.lt_irrefl]) n hn
theorem z34 (g:Atom→Bool×Bool) (a:yC) {d:Nat} (h:zA (d+1) a) (hd:d≤99) (hs:zT a≤4611686018427387904) (hg:zlI a=true→∀ t∈a,∀ f∈t.Factors,g f.Atom=(true,vat f.Atom)) (hk:∀ x,vat x=true→0≤x.Kind∧x.Kind≤4):zvn g a=(true,vAnn vat a):=by
 unfold zvn zKM vAnn;rw [Wy.fin_bn,z8G h (by omega) hs]
 cases hw:zlI a with
 | false=>rfl
 | true=>
  have:=RV_4 vat g a h hd (hg hw) hk ((a.length+Int.toNat (0:Int)+(1:Nat))+szTs a) (by omega)
  simp only [Wy.fin_i,Wy.fin_k,Wy.fin_bn,this,cond_true];cases allN (chkT vat a) a.length 0 <;>rfl
end
theorem zVW {l:yA} {a:yC} (h:a∈l):zT a≤zey l:=by
 induction l with
 | nil=>cases h
 | cons b r ih=>
  rw [zgT];rcases qd.1 h with rfl | h
  ·omega
  ·have:=ih h; omega
theorem zRW {l:yE} {w:Weighted} (h:w∈l):zT w.Ann≤zdt l:=by
 induction l with
 | nil=>cases h
 | cons b r ih=>
  rw [ziV];rcases qd.1 h with rfl | h
  ·omega
  ·have:=ih h; omega
theorem z3y {m:Nat} {a:yC} (h:zc3 m a=true):isB a=isU a:=by
 cases m with
 | zero=>cases h
 | succ m=>
 match a with
 | []=>rfl
 | [t]=>
  simp only [zc3,vAnn,qc] at h;have h1:=zm2.1 h.2 0 (by omega) (by simp)
  simp only [chkT,qc] at h1;have h2:=h1.2;obtain ⟨c,fs⟩:=t
  match fs with
  | []=>rfl
  | [f]=>
   have h3:=zm2.1 h2 0 (by omega) (by simp)
   simp only [chkF,qc] at h3;have h4:=zBu h3.2;simp only [List.getD_cons_zero] at h4;show (c==1&&(f.Exp==1&&decide (2≤f.Atom.Kind)))=(c==1&&(f.Exp==1&&(f.Atom.Kind==2||f.Atom.Kind==3||f.Atom.Kind==4)))
   have e:decide (2≤f.Atom.Kind)=(f.Atom.Kind==2||f.Atom.Kind==3||f.Atom.Kind==4):=by
    rw [beqd,beqd,beqd, ← Bool.decide_or, ← Bool.decide_or];congr 1;apply propext; omega
   rw [e]
  | f::f'::r=>rfl
 | t::u::r=>rfl
theorem zbau (g) (l:yA):zcs g l=IG (fun (_:Unit) x=>g x) (l.length+(Int.ofNat l.length).toNat +Int.toNat (0:Int)+(1:Nat)) () l:=rfl
theorem zbak (g) (l:yE):zcT g l=IG (fun (_:Unit) x=>g x) (l.length+(Int.ofNat l.length).toNat +Int.toNat (0:Int)+(1:Nat)) () l:=rfl
theorem zSF:∀ n,
  (∀ d m a,zA d a→10*d≤n→d≤m→d≤100→zT a≤4611686018427387904→zjn n a=(true,zc3 m a))∧
  (∀ d m x,zds (zA d) x→10*d+9≤n→d≤m→d≤99→zjm x≤4611686018427387904→zlA n x=(true,zhv (zc3 m) x))∧
  (∀ d m a,zA d a→10*d+6≤n→d≤m→d≤99→zT a≤4611686018427387904→zeB n a=(true, !(zc3 m a&& !(a.length==0))))∧
  (∀ d m (w:Weighted),zA d w.Ann→10*d+6≤n→d≤m→d≤99→zT w.Ann≤4611686018427387904→zeC n w=(true, !(zc3 m w.Ann&& !(w.Ann.length==0))))∧
  (∀ d m (l:yA),l.length≤1000000→(∀ a∈l,zA d a∧zT a≤4611686018427387904)→10*d+7≤n→d≤m→d≤99→zcu n l=(true,ixf (fun a=> !(zc3 m a&& !(a.length==0))) l 0))∧
  (∀ d m (l:yA),l.length≤1000000→(∀ a∈l,zA d a∧zT a≤4611686018427387904)→10*d+8≤n→d≤m→d≤99→zca n l=(true, !zpQ (zc3 m) l))∧
  (∀ d m (l:yE),l.length≤1000000→(∀ a∈l,zA d a.Ann∧zT a.Ann≤4611686018427387904)→10*d+7≤n→d≤m→d≤99→zcS n l=(true,ixf (fun a=> !(zc3 m a.Ann&& !(a.Ann.length==0))) l 0))∧
  (∀ d m (l:yE),l.length≤1000000→(∀ a∈l,zA d a.Ann∧zT a.Ann≤4611686018427387904)→10*d+8≤n→d≤m→d≤99→zcy n l=(true, !zAy (zc3 m) l))
 | 0=>by
  refine ⟨?_, ?_, ?_, ?_, ?_, ?_, ?_, ?_⟩
  ·intro d m a h hd; have:d=0:=by omega
   subst this; exact h.elim
  all_goals (intros; omega)
 | n+1=>by
  obtain ⟨h1,h2,h3,h4,h5,h6,h7,h8⟩:=zSF n;refine ⟨?_, ?_, ?_, ?_, ?_, ?_, ?_, ?_⟩
  ·intro d m a h hd hm hd2 hs;cases d with
   | zero=>exact h.elim
   | succ d=>
    cases m with
    | zero=>omega
    | succ m=>
     rw [zMA]
     exact z6a _ _ a h (by omega) hs fun t ht f hf=>h2 d m f.Atom ((h.2 t ht).2 f hf) (by omega) (by omega) (by omega) (by
      have:=zZP ht hf; rw [ziS]; omega)
  ·intro d m x h hd hm hd2 hs;rw [zG7];rw [ziS] at hs
   exact zZW _ _ _ _ _ x h hd2 (h6 d m _ h.1.1 (fun a ha=>⟨h.2.1 a ha,by have:=zVW ha; omega⟩) (by omega) hm hd2)
    (h8 d m _ h.1.2.1 (fun a ha=>⟨(h.2.2 a ha).2,by have:=zRW ha; omega⟩) (by omega) hm hd2)
  ·intro d m a h hd hm hd2 hs;rw [zC4];unfold zjH zuo;rw [Wy.fin_bn,h1 d m a h (by omega) hm (by omega) hs]
   simp only [cond_true,Wy.fin_i,Wy.fin_k,show (Int.ofNat a.length==(0:Int))=(a.length==0) from zBg a.length 0]
   cases zc3 m a <;>simp
  ·intro d m a h hd hm hd2 hs;rw [zC5];unfold zjI zux;rw [Wy.fin_bn,h1 d m a.Ann h (by omega) hm (by omega) hs]
   simp only [cond_true,Wy.fin_i,Wy.fin_k,show (Int.ofNat a.Ann.length==(0:Int))=(a.Ann.length==0) from zBg a.Ann.length 0]
   cases zc3 m a.Ann <;>simp
  ·intro d m l hl h hd hm hd2;rw [zlF,zbau];exact zNY _ _ _ _ _ (by omega) (fun x hx=>h3 d m x (h x hx).1 (by omega) hm hd2 (h x hx).2) (by omega)
  ·intro d m l hl h hd hm hd2;rw [zkP];unfold zcc zeJ;rw [zon (h5 d m l hl h (by omega) hm hd2)]
   simp [zpQ,List.all_eq_not_any_not]
  ·intro d m l hl h hd hm hd2;rw [zng,zbak];exact zNY _ _ _ _ _ (by omega) (fun x hx=>h4 d m x (h x hx).1 (by omega) hm hd2 (h x hx).2) (by omega)
  ·intro d m l hl h hd hm hd2;rw [zmh];unfold zcv zfx;rw [zon (h7 d m l hl h (by omega) hm hd2)]
   simp [zAy,List.all_eq_not_any_not]
theorem z3X {a:yC} (h:zlI a=true) {t:Term} (ht:t∈a) {f:Factor} (hf:f∈t.Factors):f.Atom.Items.length≤1024∧f.Exp≤64∧t.Factors.length≤64:=by
 simp only [zlI,qc,List.all_eq_true] at h;have:=h.2 t ht;simp only [withF,Bool.not_eq_true',Bool.or_eq_false_iff,decide_eq_false_iff_not,List.any_eq_false] at this;have h2:=this.2 f hf;simp at h2;omega
theorem zXR:∀ n,
  (∀ d m a,zA d a→3*d≤n→d≤m→d≤100→zT a≤4611686018427387904→zvr n a=(true,zc3 m a))∧
  (∀ d m x,zds (zA d) x→3*d+2≤n→d≤m→d≤99→zjm x≤4611686018427387904→x.Items.length≤1024→zs4 n x=(true,zhv (zc3 m) x))
 | 0=>by
  refine ⟨?_, ?_⟩
  ·intro d m a h hd; have:d=0:=by omega
   subst this; exact h.elim
  ·intros; omega
 | n+1=>by
  obtain ⟨h1,h2⟩:=zXR n;refine ⟨?_, ?_⟩
  ·intro d m a h hd hm hd2 hs;cases d with
   | zero=>exact h.elim
   | succ d=>
    cases m with
    | zero=>omega
    | succ m=>
     rw [zXd]
     exact z34 _ _ a h (by omega) hs (fun hw t ht f hf=>h2 d m f.Atom ((h.2 t ht).2 f hf) (by omega) (by omega) (by omega) (by
      have:=zZP ht hf; rw [ziS]; omega) (z3X hw ht hf).1) fun x hx=>zBu hx
  ·intro d m x h hd hm hd2 hs h10;rw [zPf];rw [ziS] at hs
   exact zYh _ _ x h hd2 h10 (fun a ha=>z3y ha) (fun a ha=>h1 d m a (h.2.1 a ha) (by omega) hm (by omega) (by have:=zVW ha; omega))
    fun a ha=>h1 d m a.Ann (h.2.2 a ha).2 (by omega) hm (by omega) (by have:=zRW ha; omega)
def zd3 (a:yC):Bool:=zc3 100 a
theorem z5w {d:Nat} {a:yC} (h:zA d a) (hd:d≤100) (hs:zT a≤4611686018427387904):zv9 a=(true,zd3 a):=(zXR 1000).1 d 100 a h (by omega) hd hd hs
theorem zWe {τ:Type} [Inhabited τ] {l:List τ} {x:τ} (h:x∈l):∃ i,i<l.length∧l.getD i default=x:=by
 obtain ⟨i,hi,e⟩:=List.mem_iff_getElem.1 h;exact ⟨i,hi,by rw [List.getD_eq_getElem?_getD,List.getElem?_eq_getElem hi]; exact e⟩
theorem zTu {vat:Atom→Bool} {a:yC} (h:vAnn vat a=true):zlI a=true:=by
 simp only [vAnn,qc] at h; exact h.1
theorem zES {vat:Atom→Bool} {a:yC} (h:vAnn vat a=true) {t:Term} (ht:t∈a):(1≤t.Coeff∧t.Coeff≤1152921504606846976)∧okF vat t.Factors=true:=by
 simp only [vAnn,qc] at h;obtain ⟨i,hi,rfl⟩:=zWe ht;have:=zm2.1 h.2 i (by omega) (by omega)
 simp only [chkT,qc,qe] at this;exact ⟨this.1.1,this.2⟩
theorem zAO {vat:Atom→Bool} {fs:yD} (h:okF vat fs=true) {f:Factor} (hf:f∈fs):(1≤f.Exp∧(f.Atom.Kind=3∨f.Atom.Kind=4→f.Exp=1))∧vat f.Atom=true:=by
 obtain ⟨i,hi,rfl⟩:=zWe hf;have:=zm2.1 h i (by omega) (by omega)
 simp only [chkF,qc,qe] at this;refine ⟨⟨this.1.1.1,fun hk=> ?_⟩,this.2⟩
 have h2:=this.1.1.2;rcases hk with hk | hk
 ·rw [hk] at h2; simpa using h2
 ·rw [hk] at h2; simpa using h2
theorem z8J {b:Value} (h:bz b=true):b=⟨0,0,ByteArray.mk #[]⟩:=by
 unfold bz at h;rw [zSh] at h;simp only [qc,beq_iff_eq,qe,and_true] at h;obtain ⟨k,i,t⟩:=b;simp only at h;obtain ⟨rfl,rfl,rfl⟩:=h;rfl
theorem zAa {v:Value} (h:valV v=true):v.Text.size≤255:=by
 simp only [valV,Bool.or_eq_true,qc,beq_iff_eq,qe] at h;omega
theorem zOc {x:Atom} (h:plA x=true):x.Func=0∧x.Items=[]∧x.Op=0∧x.Bound=⟨0,0,ByteArray.mk #[]⟩:=by
 simp only [plA,qc,beq_iff_eq] at h;exact ⟨h.1.1.1,List.length_eq_zero_iff.1 h.1.1.2,h.1.2,z8J h.2⟩
theorem z8C {r:RowID} (h:rz r=true):r=⟨0,0⟩:=by
 simp only [rz,qc,beq_iff_eq,and_true] at h;obtain ⟨t,s⟩:=r;simp only at h;obtain ⟨rfl,rfl⟩:=h; rfl
inductive VA (V:yC→Bool):Atom→Prop
 | var (r:RowID) (h:zHu r=true):VA V ⟨0,r,[],0,[],0,⟨0,0,ByteArray.mk #[]⟩⟩
 | mon (a b:yC) (ha:V a=true) (hb:V b=true) (ha0:a≠[]) (hb0:b≠[]) (h:a≠b):VA V ⟨1,⟨0,0⟩,[a,b],0,[],0,⟨0,0,ByteArray.mk #[]⟩⟩
 | del (a:yC) (ha:V a=true) (ha0:a≠[]) (h:isC a=false) (h':isU a=false):VA V ⟨2,⟨0,0⟩,[a],0,[],0,⟨0,0,ByteArray.mk #[]⟩⟩
 | abs (a:yC) (ha:V a=true) (ha0:a≠[]) (h:hasC a=false):VA V ⟨3,⟨0,0⟩,[a],0,[],0,⟨0,0,ByteArray.mk #[]⟩⟩
 | tst (f:Int) (l:yE) (o:Int) (b:Value) (hl:l≠[]) (hi:∀ w∈l,V w.Ann=true∧w.Ann≠[]) (hs:srtW l=true) (hf:fitK f l o b=true):VA V ⟨4,⟨0,0⟩,[],f,l,o,b⟩
theorem zkJ {V:yC→Bool} {x:Atom}:zhv V x=true↔VA V x:=by
 constructor
 ·intro h;have hk:=zBu h;obtain ⟨k,r,l,f,its,o,b⟩:=x;simp only at hk;unfold zhv at h;simp only [qc] at h;obtain ⟨h1,h2⟩:=h
  have ha:∀ a∈l,V a=true∧a≠[]:=fun a ha=>by
   have:=List.all_eq_true.1 h1 a ha;simp only [qc,Bool.not_eq_true',beq_eq_false_iff_ne] at this;exact ⟨this.1,fun e=>this.2 (by rw [e]; rfl)⟩
  by_cases h0:k=0
  ·subst h0;simp only [if_true,qc,beq_iff_eq] at h2;obtain ⟨e1,e2,e3,e4⟩:=zOc h2.1.1;simp only at e1 e2 e3 e4;subst e1 e2 e3 e4;obtain rfl:l=[]:=List.length_eq_zero_iff.1 h2.2;exact .var r h2.1.2
  simp only [h0,if_false,qc] at h2;obtain ⟨hr,h2⟩:=h2;have hr':=z8C hr;subst hr';by_cases h0':k=1
  ·subst h0';simp only [if_true,qc] at h2;obtain ⟨e1,e2,e3,e4⟩:=zOc h2.1;simp only at e1 e2 e3 e4;subst e1 e2 e3 e4
   match l,h2.2,ha with
   | [a,b],h3,ha=>exact .mon a b (ha a (by simp)).1 (ha b (by simp)).1 (ha a (by simp)).2 (ha b (by simp)).2 (by simpa [zYM] using h3)
  simp only [h0',if_false] at h2;by_cases h2':k=2
  ·subst h2';simp only [if_true,qc] at h2;obtain ⟨e1,e2,e3,e4⟩:=zOc h2.1;simp only at e1 e2 e3 e4;subst e1 e2 e3 e4
   match l,h2.2,ha with
   | [a],h3,ha=>
    simp only [zDE,qc,Bool.not_eq_true'] at h3;exact .del a (ha a (by simp)).1 (ha a (by simp)).2 h3.1 h3.2
  simp only [h2',if_false] at h2;by_cases h3':k=3
  ·subst h3';simp only [if_true,qc] at h2;obtain ⟨e1,e2,e3,e4⟩:=zOc h2.1;simp only at e1 e2 e3 e4;subst e1 e2 e3 e4
   match l,h2.2,ha with
   | [a],h3,ha=>
    simp only [zDE,Bool.not_eq_true'] at h3;exact .abs a (ha a (by simp)).1 (ha a (by simp)).2 h3
  simp only [h3',if_false] at h2;have h4':k=4:=by omega
  subst h4';simp only [if_true,qc,beq_iff_eq,qe] at h2;obtain ⟨⟨⟨⟨h3,h4⟩,h5⟩,h6⟩,h7⟩:=h2;obtain rfl:l=[]:=List.length_eq_zero_iff.1 h3
  exact .tst f its o b (fun e=>by rw [e] at h4; simp at h4) (fun w hw=>by
   have:=List.all_eq_true.1 h5 w hw;simp only [qc,Bool.not_eq_true',beq_eq_false_iff_ne] at this;exact ⟨this.1,fun e=>this.2 (by rw [e]; rfl)⟩) h6 h7
 ·intro h
  have ne:∀ a:yC,a≠[]→(a.length==0)=false:=fun a ha=>by
   rw [beq_eq_false_iff_ne]; exact fun e=>ha (List.length_eq_zero_iff.1 e)
  cases h with
  | var r h=>simp [zhv,zpQ,plA,bz,h]
  | mon a b ha hb ha0 hb0 h=>simp [zhv,zpQ,plA,bz,rz,zYM,ha,hb,ha0,hb0,h]
  | del a ha ha0 h h'=>simp [zhv,zpQ,plA,bz,rz,zDE,ha,ha0,h,h']
  | abs a ha ha0 h=>simp [zhv,zpQ,plA,bz,rz,zDE,ha,ha0,h]
  | tst f l o b hl hi hs hf=>
   have h1:zAy V l=true:=List.all_eq_true.2 fun w hw=>by rw [(hi w hw).1,ne _ (hi w hw).2]; rfl
   have h2:0<l.length:=by
    cases l with
    | nil=>exact absurd rfl hl
    | cons x r=>simp
   simp [zhv,zpQ,rz,h1,hs,hf,h2]
theorem zHw {a:yC} (h:zlI a=true):a.length≤512∧zbu a≤8∧zT a≤4096∧∀ t∈a,t.Factors.length≤64∧∀ f∈t.Factors,f.Exp≤64∧f.Atom.Items.length≤1024:=by
 simp only [zlI,qc,List.all_eq_true,qe] at h;refine ⟨h.1.1.1,h.1.1.2,h.1.2,fun t ht=> ?_⟩
 have:=h.2 t ht;simp only [withF,Bool.not_eq_true',Bool.or_eq_false_iff,decide_eq_false_iff_not,List.any_eq_false] at this;refine ⟨by omega,fun f hf=> ?_⟩
 have h2:=this.2 f hf;simp at h2;omega
theorem zYq {a:yC} {t:Term} (h:t∈a):zc8 t.Factors≤zbu a:=by
 induction a with
 | nil=>cases h
 | cons b r ih=>
  rw [zMc];rcases qd.1 h with rfl | h
  ·omega
  ·have:=ih h; omega
theorem zMI {l:yD} {f:Factor} (h:f∈l):zmJ f.Atom≤zc8 l:=by
 induction l with
 | nil=>cases h
 | cons b r ih=>
  rw [zrL];rcases qd.1 h with rfl | h
  ·omega
  ·have:=ih h; omega
theorem zL5 {l:yA} {a:yC} (h:a∈l):zbu a≤zlp l:=by
 induction l with
 | nil=>cases h
 | cons b r ih=>
  rw [zBz];rcases qd.1 h with rfl | h
  ·omega
  ·have:=ih h; omega
theorem z3u {l:yE} {w:Weighted} (h:w∈l):zbu w.Ann≤zky l:=by
 induction l with
 | nil=>cases h
 | cons b r ih=>
  rw [zzA];rcases qd.1 h with rfl | h
  ·omega
  ·have:=ih h; omega
theorem zA8 {f:Int} {l:yE} {o:Int} {b:Value} (h:fitK f l o b=true):(0≤f∧f≤3∧5≤o∧o≤10)∧valV b=true∧∀ w∈l,valV w.Value=true∧w.Value.Kind=b.Kind:=by
 simp only [fitK,qc,List.all_eq_true,qe] at h;obtain ⟨⟨⟨⟨⟨⟨h1,h2⟩,h3⟩,h4⟩,h5⟩,h6⟩,h7⟩:=h;refine ⟨⟨h1,h2,h3,h4⟩,h5,fun w hw=> ?_⟩
 have:=h7 w hw;simp only [fitI,qc,beq_iff_eq] at this;exact this.1
theorem zXK:∀ (m:Nat) (a:yC),zc3 m a=true→zA (zbu a+1) a
 | 0,a,h=>by cases h
 | m+1,a,h=>by
  have hw:=zHw (zTu h);refine ⟨by omega,fun t ht=> ?_⟩
  obtain ⟨_,hok⟩:=zES h ht;obtain ⟨h1,h2⟩:=hw.2.2.2 t ht;refine ⟨by omega,fun f hf=> ?_⟩
  have hv:=zkJ.1 (zAO hok hf).2;have hn:zmJ f.Atom≤zbu a:=Nat.le_trans (zMI hf) (zYq ht);have h3:=(h2 f hf).2;generalize f.Atom=x at hv hn h3;rw [zBi] at hn;have ih:∀ b,zc3 m b=true→zbu b+1≤zbu a→zA (zbu a) b:=fun b hb hl=>(zXK m b hb).mono hl
  cases hv with
  | var r h=>exact ⟨⟨by simp,by simp,by show (ByteArray.mk #[]).size≤_; decide⟩,fun a ha=>(by cases ha),fun w hw=>(by cases hw)⟩
  | mon b c hb hc _ _ _=>
   simp only at hn;refine ⟨⟨by simp,by simp,by show (ByteArray.mk #[]).size≤_; decide⟩,fun y hy=> ?_,fun w hw=>(by cases hw)⟩
   have:=zL5 hy;simp only at this;simp only [qd,List.not_mem_nil,or_false] at hy;rcases hy with rfl | rfl
   ·exact ih _ hb (by simp at hn; omega)
   ·exact ih _ hc (by simp at hn; omega)
  | del b hb _ _ _=>
   refine ⟨⟨by simp,by simp,by show (ByteArray.mk #[]).size≤_; decide⟩,fun y hy=> ?_,fun w hw=>(by cases hw)⟩
   have:=zL5 hy;simp only at this;simp only [qd,List.not_mem_nil,or_false] at hy;subst hy;exact ih _ hb (by simp at hn; omega)
  | abs b hb _ _=>
   refine ⟨⟨by simp,by simp,by show (ByteArray.mk #[]).size≤_; decide⟩,fun y hy=> ?_,fun w hw=>(by cases hw)⟩
   have:=zL5 hy;simp only at this;simp only [qd,List.not_mem_nil,or_false] at hy;subst hy;exact ih _ hb (by simp at hn; omega)
  | tst fn l o b hl hi hs hf=>
   obtain ⟨_,hb,hit⟩:=zA8 hf;refine ⟨⟨by simp,by simp only at h3 ⊢; omega,by have:=zAa hb; simp only; omega⟩,fun y hy=>(by cases hy),fun w hw=>⟨by have:=zAa (hit w hw).1; omega, ?_⟩⟩
   have:=z3u hw;simp only at this;exact ih _ (hi w hw).1 (by simp at hn; omega)
theorem zgH {m:Nat} {a:yC} (h:zc3 m a=true):zA 9 a∧zT a≤4096∧a.length≤512:=by
 cases m with
 | zero=>cases h
 | succ m=>
 have hw:=zHw (zTu h);exact ⟨(zXK _ a h).mono (by omega),hw.2.2.1,hw.1⟩
theorem z0M {d m m':Nat} {a:yC} (h:zA d a) (hd:d≤100) (h1:d≤m) (h2:d≤m') (hs:zT a≤4611686018427387904):zc3 m a=zc3 m' a:=by
 have e1:=(zSF 1000).1 d m a h (by omega) h1 hd hs
 have e2:=(zSF 1000).1 d m' a h (by omega) h2 hd hs
 rw [e1] at e2;exact (Prod.mk.injEq _ _ _ _ ▸ e2).2
theorem z7u {m:Nat} {a:yC} (h:zc3 m a=true) (hm:9≤m):zd3 a=true:=by
 obtain ⟨h1,h2,h3⟩:=zgH h;rw [← h]; exact z0M h1 (by omega) (by omega) hm (by omega)
theorem z2v {m:Nat} {a:yC} (h:zd3 a=true) (hm:9≤m):zc3 m a=true:=by
 obtain ⟨h1,h2,h3⟩:=zgH h;rw [← h]; exact z0M h1 (by omega) hm (by omega) (by omega)
theorem VA.imp {V V':yC→Bool} (hV:∀ a,V a=true→V' a=true) {x:Atom} (h:VA V x):VA V' x:=by
 cases h with
 | var r h=>exact .var r h
 | mon a b ha hb ha0 hb0 h=>exact .mon a b (hV a ha) (hV b hb) ha0 hb0 h
 | del a ha ha0 h h'=>exact .del a (hV a ha) ha0 h h'
 | abs a ha ha0 h=>exact .abs a (hV a ha) ha0 h
 | tst f l o b hl hi hs hf=>exact .tst f l o b hl (fun w hw=>⟨hV _ (hi w hw).1,(hi w hw).2⟩) hs hf
def vatA (x:Atom):Bool:=zhv zd3 x
theorem z6o {m:Nat} (hm:9≤m):zhv (zc3 m)=vatA:=by
 funext x
 rw [Bool.eq_iff_iff];unfold vatA;rw [zkJ,zkJ];exact ⟨VA.imp fun a h=>z7u h hm,VA.imp fun a h=>z2v h hm⟩
theorem zZu (a:yC):zd3 a=vAnn vatA a:=by
 show vAnn (zhv (zc3 99)) a=_;rw [z6o (by omega)]
section
variable (g:yC→Bool×yC) (gx:Atom→Bool×Atom)
end
section
variable (g:yC→Bool×yC)
end
def fitR (a:yC):yC×Int:=bif zlI a then (a,0) else ([],6)
def oneA (x:Atom):yC:=[⟨1,[⟨x,1⟩]⟩]
theorem zKu {d:Nat} {x:Atom} (h:zds (zA d) x):zA (d+1) (oneA x):=by
 refine ⟨by simp [oneA],fun t ht=> ?_⟩
 simp only [oneA,qh] at ht;subst ht;refine ⟨by simp,fun f hf=> ?_⟩
 simp only [qh] at hf;subst hf; exact h
theorem z3q (x:Atom):zT (oneA x)=2+zjm x:=by
 rw [oneA,zlJ,zG3,zek,ztI];simp only [List.length_singleton]; omega
theorem z2D (x:Atom):(zfK x).2=oneA x:=by
 unfold zfK zxP;rw [Atom.eta]; rfl
theorem z7v {x y:Atom} (h:oneA x=oneA y):x=y:=by
 simp only [oneA,qj,and_true] at h;have:=congrArg TermOf.Factors h;simp only [qj,and_true] at this;exact congrArg FactorOf.Atom this
theorem z32 {d:Nat} {x:Atom} (hx:zds (zA d) x) (hd:d≤99) (y:Atom):zlg x y=(true,decide (x=y)):=by
 unfold zlg zAp;rw [Atom.eta,Atom.eta,z2D,z2D,Wy.fin_bn,zCp (zKu hx) (by omega),cond_true,Wy.fin_k]
 have:decide (oneA x=oneA y)=decide (x=y):=by
  rw [decide_eq_decide];exact ⟨z7v,fun h=>by rw [h]⟩
 rw [this]
theorem zbag {d:Nat} (s:yD) (f:Factor) (hs:s.length≤1000000) (hf:zds (zA d) f.Atom) (hd:d≤99):zcf s f=(true,s.any fun g=>decide (f.Exp≤g.Exp)&&decide (f.Atom=g.Atom)):=by
 unfold zcf zhi
 have hw:zdf=zPB (fun (g:Factor×Unit) x=>zd2 x g.1):=by
  funext x y
  unfold zdf zik zPB zT3;rw [Factor.eta2,Factor.eta2]
 have:zcE s f=IG (fun (g:Factor×Unit) x=>zd2 x g.1) (s.length+f.Atom.Args.length+f.Atom.Items.length+(Int.ofNat s.length).toNat +Int.toNat (0:Int)+(1000:Nat)) (f,()) s:=by
  unfold zcE ziN zis;rw [hw,Factor.eta2]; rfl
 rw [Factor.eta2]
 exact zon (this.trans (zNY _ _ _ _ _ (by omega) (fun x _=>by
  show zd2 x f=_;unfold zd2 zv3;rw [Atom.eta,Atom.eta];simp only [Wy.fin_i,Wy.fin_bn,Wy.fin_k,z32 hf hd,cond_true];cases decide (f.Exp≤x.Exp) <;>rfl) (by omega)))
theorem zGS {d:Nat} {s:Term} (hs:zdK (zA d) s.Factors) (hd:d≤99) {t:Term} (ht:t.Factors.length≤1000000):zci s t=(true,dvF s.Factors t.Factors):=by
 unfold zci zBN
 have h3:zcp s.Factors t=(true,s.Factors.any fun f=> !t.Factors.any fun g=>decide (f.Exp≤g.Exp)&&decide (f.Atom=g.Atom)):=by
  unfold zcp zh3
  have hw:zdp=zPB (fun (g:Term×Unit) x=>zeY x g.1):=by
   funext x y
   unfold zdp ziC zPB zT3;rw [Factor.eta2]
  have:zcK s.Factors t=IG (fun (g:Term×Unit) x=>zeY x g.1) (s.Factors.length+t.Factors.length+(Int.ofNat s.Factors.length).toNat +Int.toNat (0:Int)+(1000:Nat)) (t,()) s.Factors:=by
   unfold zcK ziY ziK;rw [hw]; rfl
  exact zon (this.trans (zNY _ _ _ _ _ (by have:=hs.1; omega) (fun x hx=>by
   show zeY x t=_;unfold zeY zyH;rw [Factor.eta2,Wy.fin_bn,zbag _ _ ht (hs.2 x hx) hd,cond_true,Wy.fin_k]) (by omega)))
 rw [Wy.fin_bn,h3,cond_true,Wy.fin_k];unfold dvF;simp [List.all_eq_not_any_not]
def txV (v:Value):List UInt8:=if v.Kind=0 then zj0 v.Int else if v.Kind=1 then 39::(v.Text.data.toList.flatMap esc++[39]) else if v.Int=1 then [84,82,85,69] else [70,65,76,83,69]
def txR (r:RowID):List UInt8:=116::(zj0 r.Table++46::zj0 r.Seq)
def fnT (f:Int):List UInt8:=if f=0 then [67,79,85,78,84] else if f=1 then [83,85,77] else if f=2 then [77,73,78] else [77,65,88]
def opT (o:Int):List UInt8:=if o=5 then [61] else if o=6 then [60,62] else if o=7 then [60] else if o=8 then [60,61] else if o=9 then [62] else [62,61]
def zXW (ts:List (List UInt8)):List UInt8:=if ts=[] then [48] else zp2 ts [32,43,32]
def z3i (c:Int) (fs:List (List UInt8)):List UInt8:=if fs=[] then zj0 c else if c=1 then zp2 fs [42] else zj0 c++42::zp2 fs [42]
def z18 (x:List UInt8) (e:Int):List UInt8:=if e=1 then x else x++94::zj0 e
def zfj (k:Int) (r:RowID) (xs:List (List UInt8)) (f:Int) (is:List (List UInt8)) (o:Int) (b:Value):List UInt8:=
 if k=0 then txR r
 else if k=1 then [109,111,110,117,115,91]++(xs.getD 0 []++([44,32]++(xs.getD 1 []++[93])))
 else if k=2 then [100,101,108,116,97,91]++(xs.getD 0 []++[93])
 else if k=3 then [97,98,115,101,110,116,91]++(xs.getD 0 []++[93])
 else [116,101,115,116,91]++(fnT f++([123]++(zp2 is [59,32]++([125,32]++(opT o++([32]++(txV b++[93])))))))
mutual
def txA:Atom→List UInt8
 | ⟨k,r,a,f,i,o,b⟩=>zfj k r (txAs a) f (txIs i) o b
def txFs:yD→List (List UInt8)
 | []=>[]
 | ⟨x,e⟩::l=>z18 (txA x) e::txFs l
def txTs:yC→List (List UInt8)
 | []=>[]
 | ⟨c,fs⟩::l=>z3i c (txFs fs)::txTs l
def txAs:yA→List (List UInt8)
 | []=>[]
 | a::l=>zXW (txTs a)::txAs l
def txIs:yE→List (List UInt8)
 | []=>[]
 | ⟨v,a⟩::l=>(txV v++([58,32]++zXW (txTs a)))::txIs l
end
def txF (f:Factor):List UInt8:=z18 (txA f.Atom) f.Exp
def txT (t:Term):List UInt8:=z3i t.Coeff (txFs t.Factors)
def txN (a:yC):List UInt8:=zXW (txTs a)
def txI (w:Weighted):List UInt8:=txV w.Value++([58,32]++txN w.Ann)
theorem zI3:∀ l,txFs l=l.map txF
 | []=>by rw [txFs]; rfl
 | x::r=>by rw [txFs,zI3 r]; rfl
theorem z3N:∀ l,txTs l=l.map txT
 | []=>by rw [txTs]; rfl
 | x::r=>by rw [txTs,z3N r]; rfl
theorem zzM:∀ l,txAs l=l.map txN
 | []=>by rw [txAs]; rfl
 | x::r=>by rw [txAs,zzM r]; rfl
theorem zXj:∀ l,txIs l=l.map txI
 | []=>by rw [txIs]; rfl
 | x::r=>by rw [txIs,zXj r]; rfl
def txL (l:yD):List UInt8:=zp2 (txFs l) [42]
theorem zto {n:Int} (h:wf3 n): -9223372036854775808≤n∧n≤9223372036854775807:=by
 have h:(Lit.int .i64 n).wf=true:=h;have:IntKind.i64.min≤n∧n≤IntKind.i64.max:=by simpa [Lit.wf] using h
 exact ⟨this.1,this.2⟩
def rng (n:Int):Prop:= -9223372036854775808≤n∧n≤9223372036854775807
instance (n:Int):Decidable (rng n):=by unfold rng; infer_instance
theorem z4f {m:Nat} {x:Atom} (h:zhv (zc3 m) x=true) (hi:x.Items.length≤1024):zjm x≤4195328:=by
 rw [ziS];cases zkJ.1 h with
 | var r h=>rw [zoq,zl2]; omega
 | mon a b ha hb _ _ _=>
  have h1:=(zgH ha).2.1; have h2:=(zgH hb).2.1;simp only [zgT,zoq,zl2]; omega
 | del a ha _ _ _=>
  have h1:=(zgH ha).2.1;simp only [zgT,zoq,zl2]; omega
 | abs a ha _ _=>
  have h1:=(zgH ha).2.1;simp only [zgT,zoq,zl2]; omega
 | tst f l o b hl hv hs hf=>
  have h1:∀ l:yE,(∀ w∈l,zT w.Ann≤4096)→zdt l≤l.length*4097:=fun l=>by
   induction l with
   | nil=>intro _; rw [zl2]; omega
   | cons w r ih=>
    intro h;have:=h w (by simp)
    have:=ih fun w hw=>h w (by simp [hw])
    rw [ziV,qf,Nat.add_mul]; omega
  have:=h1 l fun w hw=>(zgH (hv w hw).1).2.1
  have:=Nat.mul_le_mul hi (Nat.le_refl 4097);simp only [zoq] at this ⊢; omega
section
variable (gA:Atom→Bool×ByteArray) (gF:yD→Bool×ByteArray) (gT:yC→Bool×ByteArray)
end
def hd (S:List UInt8) (u:List UInt8):Prop:=∀ c,u.head? =some c→c∈S
theorem zox {S:List UInt8} {c:UInt8} {u:List UInt8} (h:c∈S):hd S (c::u):=fun d hd=>by
 simp only [List.head?_cons,qa] at hd; subst hd; exact h
theorem hd.mono {S T:List UInt8} {u:List UInt8} (h:hd S u) (hs:∀ c∈S,c∈T):hd T u:=fun c hc=>hs c (h c hc)
theorem hd.noDig {S:List UInt8} {u:List UInt8} (h:hd S u) (hs:∀ c∈S,isDg c=false):noDig u:=fun c hc=>hs c (h c hc)
theorem hd.ne {S:List UInt8} {u:List UInt8} (h:hd S u) {c:UInt8} (hs:c∉S):u.head? ≠some c:=fun e=>hs (h c e)
theorem hd.cons_ne {S:List UInt8} {u:List UInt8} {c:UInt8} (h:hd S (c::u)) (hs:c∉S):False:=hs (h c rfl)
theorem zKH {α:Type} (tx:α→List UInt8) (S0:List UInt8) (s0:UInt8) (sr:List UInt8) (P:α→Prop) (hS:s0∉S0) (hR:∀ x y,P x→P y→∀ u v,hd (s0::S0) u→hd (s0::S0) v→tx x++u=tx y++v→x=y∧u=v):
  ∀ l l':List α,l≠[]→l'≠[]→(∀ x∈l,P x)→(∀ x∈l',P x)→∀ u v,hd S0 u→hd S0 v→zp2 (l.map tx) (s0::sr)++u=zp2 (l'.map tx) (s0::sr)++v→l=l'∧u=v
 | [],_,h,_,_,_,_,_,_,_,_=>absurd rfl h
 | _::_,[],_,h,_,_,_,_,_,_,_=>absurd rfl h
 | [x],[y],_,_,hx,hy,u,v,hu,hv,h=>by
  have mono:∀ c∈S0,c∈s0::S0:=fun c hc=>List.mem_cons_of_mem _ hc
  obtain ⟨h1,h2⟩:=hR x y (hx x (by simp)) (hy y (by simp)) u v (hu.mono mono) (hv.mono mono) h
  exact ⟨by rw [h1],h2⟩
 | [x],y::y'::r',_,_,hx,hy,u,v,hu,hv,h=>by
  have mono:∀ c∈S0,c∈s0::S0:=fun c hc=>List.mem_cons_of_mem _ hc
  simp only [List.map,zp2,List.append_assoc] at h;obtain ⟨h1,h2⟩:=hR x y (hx x (by simp)) (hy y (by simp)) u _ (hu.mono mono) (zox (by simp)) h
  rw [h2] at hu;exact (hu.cons_ne hS).elim
 | x::x'::r,[y],_,_,hx,hy,u,v,hu,hv,h=>by
  have mono:∀ c∈S0,c∈s0::S0:=fun c hc=>List.mem_cons_of_mem _ hc
  simp only [List.map,zp2,List.append_assoc] at h;obtain ⟨h1,h2⟩:=hR x y (hx x (by simp)) (hy y (by simp)) _ v (zox (by simp)) (hv.mono mono) h
  rw [← h2] at hv;exact (hv.cons_ne hS).elim
 | x::x'::r,y::y'::r',_,_,hx,hy,u,v,hu,hv,h=>by
  have h:zp2 (((x::x'::r)).map tx) (s0::sr)++u=zp2 (((y::y'::r')).map tx) (s0::sr)++v:=h;simp only [List.map,zp2,List.append_assoc] at h;obtain ⟨h1,h2⟩:=hR x y (hx x (by simp)) (hy y (by simp)) _ _ (zox (by simp)) (zox (by simp)) h
  have h3:=(List.append_right_inj sr).1 (List.cons.inj h2).2;obtain ⟨h4,h5⟩:=zKH tx S0 s0 sr P hS hR (x'::r) (y'::r') (by simp) (by simp) (fun z hz=>hx z (List.mem_cons_of_mem _ hz)) (fun z hz=>hy z (List.mem_cons_of_mem _ hz)) u v hu hv h3
  exact ⟨by rw [h1,h4],h5⟩
theorem z2f {t:ByteArray} (h:t.size=0):t=ByteArray.mk #[]:=zEq (by
 have:t.data.toList.length=0:=by rw [Array.length_toList]; exact h
 rw [List.length_eq_zero_iff.1 this])
theorem z2z {x y:Value} (hx:valV x=true) (hy:valV y=true) (rx:rng x.Int) (ry:rng y.Int) {u v:List UInt8} (hu:hd [58,93] u) (hv:hd [58,93] v) (h:txV x++u=txV y++v):x=y∧u=v:=by
 have d1:∀ c∈([58,93]:List UInt8),isDg c=false:=by decide
 obtain ⟨cx,sx,ex,dx⟩:=z0J rx.1 rx.2;obtain ⟨cy,sy,ey,dy⟩:=z0J ry.1 ry.2
 have nd:∀ c:UInt8,c=45∨isDg c=true→c≠39∧c≠84∧c≠70:=fun c hc=>by
  refine ⟨?_, ?_, ?_⟩ <;>(intro e; subst e; revert hc; decide)
 obtain ⟨kx,ix,tx⟩:=x;obtain ⟨ky,iy,ty⟩:=y;simp only [valV,Bool.or_eq_true,qc,beq_iff_eq,qe] at hx hy;simp only at rx ry ex ey;rcases hx with (⟨rfl,hx⟩ | ⟨⟨rfl,rfl⟩,hx⟩) | ⟨⟨rfl,hx⟩,hx2⟩
 ·have:=z2f hx; subst this;rcases hy with (⟨rfl,hy⟩ | ⟨⟨rfl,rfl⟩,hy⟩) | ⟨⟨rfl,hy⟩,hy2⟩
  ·have:=z2f hy; subst this;simp only [txV,if_true] at h;obtain ⟨h1,h2⟩:=zuu rx ry (hu.noDig d1) (hv.noDig d1) h;exact ⟨by rw [h1],h2⟩
  ·simp only [txV,if_true,show ¬ (1:Int)=0 by decide,if_false,ex,List.cons_append,qj] at h
   exact absurd h.1 (nd cx dx).1
  ·rcases hy2 with rfl | rfl
   ·simp only [txV,if_true,show ¬ (2:Int)=0 by decide,show ¬ (2:Int)=1 by decide,show ¬ (0:Int)=1 by decide,if_false,ex,List.cons_append,qj] at h
    exact absurd h.1 (nd cx dx).2.2
   ·simp only [txV,if_true,show ¬ (2:Int)=0 by decide,show ¬ (2:Int)=1 by decide,if_false,ex,List.cons_append,qj] at h
    exact absurd h.1 (nd cx dx).2.1
 ·rcases hy with (⟨rfl,hy⟩ | ⟨⟨rfl,rfl⟩,hy⟩) | ⟨⟨rfl,hy⟩,hy2⟩
  ·simp only [txV,if_true,show ¬ (1:Int)=0 by decide,if_false,ey,List.cons_append,qj] at h
   exact absurd h.1.symm (nd cy dy).1
  ·simp only [txV,if_true,show ¬ (1:Int)=0 by decide,if_false,List.cons_append,qj,true_and,List.append_assoc,List.nil_append] at h
   obtain ⟨h1,h2⟩:=zWI _ _ u v (hu.ne (by decide)) (hv.ne (by decide)) h
   exact ⟨by rw [zEq h1],h2⟩
  ·rcases hy2 with rfl | rfl <;>simp [txV] at h
 ·have:=z2f hx; subst this;rcases hy with (⟨rfl,hy⟩ | ⟨⟨rfl,rfl⟩,hy⟩) | ⟨⟨rfl,hy⟩,hy2⟩
  ·rcases hx2 with rfl | rfl
   ·simp only [txV,if_true,show ¬ (2:Int)=0 by decide,show ¬ (2:Int)=1 by decide,show ¬ (0:Int)=1 by decide,if_false,ey,List.cons_append,qj] at h
    exact absurd h.1.symm (nd cy dy).2.2
   ·simp only [txV,if_true,show ¬ (2:Int)=0 by decide,show ¬ (2:Int)=1 by decide,if_false,ey,List.cons_append,qj] at h
    exact absurd h.1.symm (nd cy dy).2.1
  ·rcases hx2 with rfl | rfl <;>simp [txV] at h
  ·have:=z2f hy; subst this;rcases hx2 with rfl | rfl <;>rcases hy2 with rfl | rfl <;>simp [txV] at h
   ·exact ⟨rfl,h⟩
   ·exact ⟨rfl,h⟩
theorem z7y {f g:Int} (hf:0≤f∧f≤3) (hg:0≤g∧g≤3) {u v:List UInt8} (h:fnT f++123::u=fnT g++123::v):f=g∧u=v:=by
 have c1:f=0∨f=1∨f=2∨f=3:=by omega
 have c2:g=0∨g=1∨g=2∨g=3:=by omega
 rcases c1 with rfl | rfl | rfl | rfl <;>rcases c2 with rfl | rfl | rfl | rfl <;>simp [fnT] at h <;>exact ⟨rfl,h⟩
theorem z7m {f g:Int} (hf:5≤f∧f≤10) (hg:5≤g∧g≤10) {u v:List UInt8} (h:opT f++32::u=opT g++32::v):f=g∧u=v:=by
 have c1:f=5∨f=6∨f=7∨f=8∨f=9∨f=10:=by omega
 have c2:g=5∨g=6∨g=7∨g=8∨g=9∨g=10:=by omega
 rcases c1 with rfl | rfl | rfl | rfl | rfl | rfl <;>rcases c2 with rfl | rfl | rfl | rfl | rfl | rfl <;>simp [opT] at h <;>exact ⟨rfl,h⟩
def SN:List UInt8:=[93,44,59,125]
def ST:List UInt8:=32::SN
def SF:List UInt8:=42::ST
def SA:List UInt8:=94::SF
theorem zYU:∀ c∈SA,isDg c=false:=by decide
theorem zbat:∀ c∈ST,c∈SA:=by decide
theorem zXQ:∀ c∈SF,c∈SA:=by decide
def RdN (V:yC→Bool):Prop:=∀ a b,V a=true→V b=true→zhx a→zhx b→∀ u v,hd SN u→hd SN v→txN a++u=txN b++v→a=b∧u=v
def RdA (V:yC→Bool):Prop:=∀ x y,zhv V x=true→zhv V y=true→zjl x→zjl y→∀ u v,hd SA u→hd SA v→txA x++u=txA y++v→x=y∧u=v
theorem z78 {V:yC→Bool} {x:Atom} (h:zhv V x=true):∃ c r,txA x=c::r∧isDg c=false:=by
 cases zkJ.1 h with
 | var r h=>rw [txA]; exact ⟨116,_,rfl,rfl⟩
 | mon a b _ _ _ _ _=>rw [txA]; exact ⟨109,_,rfl,rfl⟩
 | del a _ _ _ _=>rw [txA]; exact ⟨100,_,rfl,rfl⟩
 | abs a _ _ _=>rw [txA]; exact ⟨97,_,rfl,rfl⟩
 | tst f l o b _ _ _ _=>rw [txA]; exact ⟨116,_,rfl,rfl⟩
theorem z6i {V:yC→Bool} (hV:RdN V):RdA V:=by
 intro x y hx hy wx wy u v hu hv h;have Wx:=zGT wx;have Wy:=zGT wy;have k0:¬ (1:Int)=0:=by decide
 have c44:∀ z,hd SN (44::z):=fun z=>zox (by decide)
 have c93:∀ z,hd SN (93::z):=fun z=>zox (by decide)
 have tE:∀ (r:RowID),zHu r=true→rng r.Table→∀ w z,zj0 r.Table++w≠101::z:=fun r hr hg w z e=>by
  simp only [zHu,qc,qe] at hr;obtain ⟨d1,d2⟩:=z6p (show 0≤r.Table by omega) hg.2
  cases hl:zj0 r.Table with
  | nil=>exact d2 hl
  | cons c s=>
   rw [hl] at e d1;simp only [List.cons_append,qj] at e;rw [List.all_cons,e.1] at d1;revert d1; simp [isDg]
 cases zkJ.1 hx with
 | var r hr=>
  have rr:=Wx.2.2.2.2.1;simp only at rr;cases zkJ.1 hy with
  | var r' hr'=>
   have rr':=Wy.2.2.2.2.1;simp only at rr';rw [txA,txA] at h;simp only [zfj,if_true,txR,List.cons_append,qj,true_and,List.append_assoc] at h;obtain ⟨h1,h2⟩:=zuu (zto rr.1) (zto rr'.1) (fun c hc=>by simp only [List.head?_cons,qa] at hc; subst hc; rfl) (fun c hc=>by simp only [List.head?_cons,qa] at hc; subst hc; rfl) h
   simp only [qj,true_and] at h2;obtain ⟨h3,h4⟩:=zuu (zto rr.2) (zto rr'.2) (hu.noDig zYU) (hv.noDig zYU) h2;obtain ⟨t,s⟩:=r; obtain ⟨t',s'⟩:=r';simp only at h1 h3;exact ⟨by rw [h1,h3],h4⟩
  | tst f l o b _ _ _ _=>
   rw [txA,txA] at h;simp only [zfj,if_true,txR,show ¬ (4:Int)=0 by decide,show ¬ (4:Int)=1 by decide,show ¬ (4:Int)=2 by decide,show ¬ (4:Int)=3 by decide,if_false,List.cons_append,qj,true_and,List.append_assoc] at h
   exact absurd h (tE r hr (zto rr.1) _ _)
  | mon a b _ _ _ _ _=>rw [txA,txA] at h; simp [zfj,txR] at h
  | del a _ _ _ _=>rw [txA,txA] at h; simp [zfj,txR] at h
  | abs a _ _ _=>rw [txA,txA] at h; simp [zfj,txR] at h
 | mon a b ha hb _ _ _=>
  cases zkJ.1 hy with
  | mon a' b' ha' hb' _ _ _=>
   rw [txA,txA,zzM,zzM] at h;simp only [zfj,if_true,k0,if_false,List.map,List.getD_cons_zero,List.getD_cons_succ,List.cons_append,qj,true_and,List.append_assoc,List.nil_append] at h;have wa:=fun z hz=>(znP Wx.1.1 z hz).1
   have wb:=fun z hz=>(znP Wy.1.1 z hz).1
   obtain ⟨h1,h2⟩:=hV a a' ha ha' (wa a (by simp)) (wb a' (by simp)) _ _ (c44 _) (c44 _) h
   simp only [qj,true_and] at h2;obtain ⟨h3,h4⟩:=hV b b' hb hb' (wa b (by simp)) (wb b' (by simp)) _ _ (c93 _) (c93 _) h2
   simp only [qj,true_and] at h4;exact ⟨by rw [h1,h3],h4⟩
  | var r h=>rw [txA,txA] at h; simp [zfj,txR] at h
  | del a _ _ _ _=>rw [txA,txA] at h; simp [zfj,txR] at h
  | abs a _ _ _=>rw [txA,txA] at h; simp [zfj,txR] at h
  | tst f l o b _ _ _ _=>rw [txA,txA] at h; simp [zfj,txR] at h
 | del a ha _ _ _=>
  cases zkJ.1 hy with
  | del a' ha' _ _ _=>
   rw [txA,txA,zzM,zzM] at h;simp only [zfj,if_true,show ¬ (2:Int)=0 by decide,show ¬ (2:Int)=1 by decide,if_false,List.map,List.getD_cons_zero,List.cons_append,qj,true_and,List.append_assoc,List.nil_append] at h
   have wa:=fun z hz=>(znP Wx.1.1 z hz).1
   have wb:=fun z hz=>(znP Wy.1.1 z hz).1
   obtain ⟨h1,h2⟩:=hV a a' ha ha' (wa a (by simp)) (wb a' (by simp)) _ _ (c93 _) (c93 _) h
   simp only [qj,true_and] at h2;exact ⟨by rw [h1],h2⟩
  | var r h=>rw [txA,txA] at h; simp [zfj,txR] at h
  | mon a b _ _ _ _ _=>rw [txA,txA] at h; simp [zfj,txR] at h
  | abs a _ _ _=>rw [txA,txA] at h; simp [zfj,txR] at h
  | tst f l o b _ _ _ _=>rw [txA,txA] at h; simp [zfj,txR] at h
 | abs a ha _ _=>
  cases zkJ.1 hy with
  | abs a' ha' _ _=>
   rw [txA,txA,zzM,zzM] at h;simp only [zfj,if_true,show ¬ (3:Int)=0 by decide,show ¬ (3:Int)=1 by decide,show ¬ (3:Int)=2 by decide,if_false,List.map,List.getD_cons_zero,List.cons_append,qj,true_and,List.append_assoc,List.nil_append] at h
   have wa:=fun z hz=>(znP Wx.1.1 z hz).1
   have wb:=fun z hz=>(znP Wy.1.1 z hz).1
   obtain ⟨h1,h2⟩:=hV a a' ha ha' (wa a (by simp)) (wb a' (by simp)) _ _ (c93 _) (c93 _) h
   simp only [qj,true_and] at h2;exact ⟨by rw [h1],h2⟩
  | var r h=>rw [txA,txA] at h; simp [zfj,txR] at h
  | mon a b _ _ _ _ _=>rw [txA,txA] at h; simp [zfj,txR] at h
  | del a _ _ _ _=>rw [txA,txA] at h; simp [zfj,txR] at h
  | tst f l o b _ _ _ _=>rw [txA,txA] at h; simp [zfj,txR] at h
 | tst f l o b hl hi hs hf=>
  cases zkJ.1 hy with
  | tst f' l' o' b' hl' hi' hs' hf'=>
   obtain ⟨⟨f0,f3,o5,o10⟩,hb,hit⟩:=zA8 hf;obtain ⟨⟨f0',f3',o5',o10'⟩,hb',hit'⟩:=zA8 hf';have wl:=zwa Wx.2.1.1;have wl':=zwa Wy.2.1.1;rw [txA,txA,zXj,zXj] at h;simp only [zfj,show ¬ (4:Int)=0 by decide,show ¬ (4:Int)=1 by decide,show ¬ (4:Int)=2 by decide,show ¬ (4:Int)=3 by decide,if_false,List.cons_append,qj,true_and,List.append_assoc,List.nil_append] at h
   obtain ⟨h1,h2⟩:=z7y ⟨f0,f3⟩ ⟨f0',f3'⟩ h
   obtain ⟨h3,h4⟩:=zKH txI [125] 59 [32] (fun w=>(V w.Ann=true∧zhx w.Ann)∧valV w.Value=true∧rng w.Value.Int) (by decide) (fun x y px py u v hu hv e=>by
    simp only [txI,List.append_assoc,List.cons_append,List.nil_append] at e;obtain ⟨e1,e2⟩:=z2z px.2.1 py.2.1 px.2.2 py.2.2 (zox (by decide)) (zox (by decide)) e
    simp only [qj,true_and] at e2;obtain ⟨e3,e4⟩:=hV _ _ px.1.1 py.1.1 px.1.2 py.1.2 u v (hu.mono (by decide)) (hv.mono (by decide)) e2
    obtain ⟨vx,ax⟩:=x; obtain ⟨vy,ay⟩:=y;simp only at e1 e3;exact ⟨by rw [e1,e3],e4⟩) l l' hl hl' (fun w hw=>⟨⟨(hi w hw).1,(wl w hw).2.1⟩,(hit w hw).1,zto (wl w hw).1.2.1⟩) (fun w hw=>⟨⟨(hi' w hw).1,(wl' w hw).2.1⟩,(hit' w hw).1,zto (wl' w hw).1.2.1⟩) _ _ (zox (by decide)) (zox (by decide)) h2
   simp only [qj,true_and] at h4;obtain ⟨h5,h6⟩:=z7m ⟨o5,o10⟩ ⟨o5',o10'⟩ h4;obtain ⟨h7,h8⟩:=z2z hb hb' (zto Wx.2.2.1.2.1) (zto Wy.2.2.1.2.1) (zox (by decide)) (zox (by decide)) h6
   simp only [qj,true_and] at h8;exact ⟨by rw [h1,h3,h5,h7],h8⟩
  | var r hr=>
   have rr:=Wy.2.2.2.2.1;simp only at rr;rw [txA,txA] at h;simp only [zfj,if_true,txR,show ¬ (4:Int)=0 by decide,show ¬ (4:Int)=1 by decide,show ¬ (4:Int)=2 by decide,show ¬ (4:Int)=3 by decide,if_false,List.cons_append,qj,true_and,List.append_assoc] at h
   exact absurd h.symm (tE r hr (zto rr.1) _ _)
  | mon a b _ _ _ _ _=>rw [txA,txA] at h; simp [zfj,txR] at h
  | del a _ _ _ _=>rw [txA,txA] at h; simp [zfj,txR] at h
  | abs a _ _ _=>rw [txA,txA] at h; simp [zfj,txR] at h
def gF (V:yC→Bool) (f:Factor):Prop:=zhv V f.Atom=true∧zjl f.Atom∧rng f.Exp
theorem z9R {V:yC→Bool} (hA:RdA V) {f g:Factor} (hf:gF V f) (hg:gF V g) {u v:List UInt8} (hu:hd SF u) (hv:hd SF v) (h:txF f++u=txF g++v):f=g∧u=v:=by
 obtain ⟨x,e⟩:=f; obtain ⟨y,e'⟩:=g;obtain ⟨a1,a2,a3⟩:=hf; obtain ⟨b1,b2,b3⟩:=hg;simp only at a1 a2 a3 b1 b2 b3;have c94:∀ z,hd SA (94::z):=fun z=>zox (by decide)
 have n94:(94:UInt8)∉SF:=by decide
 have dg:∀ c∈SF,isDg c=false:=fun c hc=>zYU c (zXQ c hc)
 unfold txF z18 at h;simp only at h;by_cases h1:e=1
 ·by_cases h2:e'=1
  ·rw [if_pos h1,if_pos h2] at h;obtain ⟨q1,q2⟩:=hA x y a1 b1 a2 b2 u v (hu.mono zXQ) (hv.mono zXQ) h;exact ⟨by rw [q1,h1,h2],q2⟩
  ·rw [if_pos h1,if_neg h2,List.append_assoc] at h;obtain ⟨q1,q2⟩:=hA x y a1 b1 a2 b2 u _ (hu.mono zXQ) (c94 _) h;rw [q2] at hu;exact (hu.cons_ne n94).elim
 ·by_cases h2:e'=1
  ·rw [if_neg h1,if_pos h2,List.append_assoc] at h;obtain ⟨q1,q2⟩:=hA x y a1 b1 a2 b2 _ v (c94 _) (hv.mono zXQ) h;rw [← q2] at hv;exact (hv.cons_ne n94).elim
  ·rw [if_neg h1,if_neg h2,List.append_assoc,List.append_assoc] at h;obtain ⟨q1,q2⟩:=hA x y a1 b1 a2 b2 _ _ (c94 _) (c94 _) h;simp only [List.cons_append,qj,true_and] at q2;obtain ⟨q3,q4⟩:=zuu a3 b3 (hu.noDig dg) (hv.noDig dg) q2;exact ⟨by rw [q1,q3],q4⟩
theorem z0H {V:yC→Bool} (hA:RdA V) {l l':yD} (hl:l≠[]) (hl':l'≠[]) (h1:∀ f∈l,gF V f) (h2:∀ f∈l',gF V f) {u v:List UInt8} (hu:hd ST u) (hv:hd ST v) (h:txL l++u=txL l'++v):l=l'∧u=v:=by
 unfold txL at h;rw [zI3,zI3] at h;exact zKH txF ST 42 [] (gF V) (by decide) (fun x y px py u v hu hv e=>z9R hA px py hu hv e) l l' hl hl' h1 h2 u v hu hv h
theorem zCS {V:yC→Bool} {l:yD} (hl:l≠[]) (h:∀ f∈l,gF V f):∃ c r,txL l=c::r∧isDg c=false:=by
 cases l with
 | nil=>exact absurd rfl hl
 | cons f r=>
  obtain ⟨c,s,e,hc⟩:=z78 (h f (by simp)).1
  have:∃ s',txF f=c::s':=by
   unfold txF z18;split
   ·exact ⟨s,e⟩
   ·exact ⟨_,by rw [e]; rfl⟩
  obtain ⟨s',e'⟩:=this;unfold txL;rw [zI3];cases r with
  | nil=>exact ⟨c,s',by simp only [List.map,zp2]; exact e',hc⟩
  | cons g r=>exact ⟨c,_,by simp only [List.map,zp2]; rw [e']; rfl,hc⟩
def gT (V:yC→Bool) (t:Term):Prop:=(1≤t.Coeff∧t.Coeff≤9223372036854775807)∧∀ f∈t.Factors,gF V f
theorem zZ7 {n:Int} (h:1≤n) (h2:n≤9223372036854775807):∃ c r,zj0 n=c::r∧isDg c=true∧c≠48:=by
 have e:zj0 n=Lib.decDigits n.toNat:=by rw [zWZ (by omega) h2,Lib.itoa,if_neg (by omega)]
 obtain ⟨a1,a2,a3,a4⟩:=zTk n.toNat n.toNat (Nat.le_refl _);rw [e];cases hl:Lib.decDigits n.toNat with
 | nil=>exact absurd hl a3
 | cons c r=>
  rw [hl] at a1 a4;rw [List.all_cons,qc] at a1;exact ⟨c,r,rfl,a1.1,fun e=>a4 (by omega) (by rw [e]; rfl)⟩
theorem z3f {l:yD}:txFs l=[]↔l=[]:=by rw [zI3,List.map_eq_nil_iff]
theorem z2r (t:Term):txT t=if t.Factors=[] then zj0 t.Coeff else if t.Coeff=1 then txL t.Factors else zj0 t.Coeff++42::txL t.Factors:=by
 unfold txT z3i;by_cases h:t.Factors=[]
 ·rw [if_pos (z3f.2 h),if_pos h]
 ·rw [if_neg (fun e=>h (z3f.1 e)),if_neg h]; rfl
theorem zbac {V:yC→Bool} (hA:RdA V) {s t:Term} (hs:gT V s) (ht:gT V t) {u v:List UInt8} (hu:hd ST u) (hv:hd ST v) (h:txT s++u=txT t++v):s=t∧u=v:=by
 obtain ⟨c,l⟩:=s; obtain ⟨c',l'⟩:=t;obtain ⟨⟨c1,c2⟩,h1⟩:=hs; obtain ⟨⟨c1',c2'⟩,h2⟩:=ht;simp only at c1 c2 h1 c1' c2' h2;have dg:∀ c∈ST,isDg c=false:=fun c hc=>zYU c (zbat c hc)
 have n42:(42:UInt8)∉ST:=by decide
 have d42:∀ z,noDig (42::z):=fun z c hc=>by simp only [List.head?_cons,qa] at hc; subst hc; rfl
 have rc:rng c:=⟨by omega,c2⟩
 have rc':rng c':=⟨by omega,c2'⟩
 obtain ⟨d,r,e,hd,_⟩:=zZ7 c1 c2;obtain ⟨d',r',e',hd',_⟩:=zZ7 c1' c2';rw [z2r,z2r] at h;simp only at h;by_cases l0:l=[]
 ·rw [if_pos l0] at h;by_cases l0':l'=[]
  ·rw [if_pos l0'] at h;obtain ⟨q1,q2⟩:=zuu rc rc' (hu.noDig dg) (hv.noDig dg) h;exact ⟨by rw [q1,l0,l0'],q2⟩
  ·rw [if_neg l0'] at h;by_cases k':c'=1
   ·rw [if_pos k'] at h;obtain ⟨d2,r2,e2,hd2⟩:=zCS l0' h2;rw [e,e2] at h;simp only [List.cons_append,qj] at h;rw [h.1,hd2] at hd; cases hd
   ·rw [if_neg k',List.append_assoc] at h;obtain ⟨q1,q2⟩:=zuu rc rc' (hu.noDig dg) (d42 _) h;rw [q2] at hu;exact (hu.cons_ne n42).elim
 ·rw [if_neg l0] at h;by_cases k:c=1
  ·rw [if_pos k] at h;obtain ⟨d2,r2,e2,hd2⟩:=zCS l0 h1;by_cases l0':l'=[]
   ·rw [if_pos l0',e2,e'] at h;simp only [List.cons_append,qj] at h;rw [← h.1,hd2] at hd'; cases hd'
   ·rw [if_neg l0'] at h;by_cases k':c'=1
    ·rw [if_pos k'] at h;obtain ⟨q1,q2⟩:=z0H hA l0 l0' h1 h2 hu hv h;exact ⟨by rw [q1,k,k'],q2⟩
    ·rw [if_neg k',e2,e'] at h;simp only [List.cons_append,qj] at h;rw [← h.1,hd2] at hd'; cases hd'
  ·rw [if_neg k,List.append_assoc] at h;by_cases l0':l'=[]
   ·rw [if_pos l0'] at h;obtain ⟨q1,q2⟩:=zuu rc rc' (d42 _) (hv.noDig dg) h;rw [← q2] at hv;exact (hv.cons_ne n42).elim
   ·rw [if_neg l0'] at h;by_cases k':c'=1
    ·rw [if_pos k'] at h;obtain ⟨d2,r2,e2,hd2⟩:=zCS l0' h2;rw [e,e2] at h;simp only [List.cons_append,qj] at h;rw [h.1,hd2] at hd; cases hd
    ·rw [if_neg k',List.append_assoc] at h;obtain ⟨q1,q2⟩:=zuu rc rc' (d42 _) (d42 _) h;simp only [List.cons_append,qj,true_and] at q2;obtain ⟨q3,q4⟩:=z0H hA l0 l0' h1 h2 hu hv q2;exact ⟨by rw [q1,q3],q4⟩
theorem z7N {V:yC→Bool} {t:Term} (ht:gT V t):∃ c r,txT t=c::r∧c≠48:=by
 obtain ⟨⟨c1,c2⟩,h1⟩:=ht;obtain ⟨d,r,e,hd,h48⟩:=zZ7 c1 c2;rw [z2r];by_cases l0:t.Factors=[]
 ·rw [if_pos l0]; exact ⟨d,r,e,h48⟩
 ·rw [if_neg l0];split
  ·obtain ⟨d2,r2,e2,hd2⟩:=zCS l0 h1;exact ⟨d2,r2,e2,fun e=>by rw [e] at hd2; revert hd2; decide⟩
  ·exact ⟨d,_,by rw [e]; rfl,h48⟩
theorem z9N {V:yC→Bool} (hA:RdA V) {a b:yC} (ha:∀ t∈a,gT V t) (hb:∀ t∈b,gT V t) {u v:List UInt8} (hu:hd SN u) (hv:hd SN v) (h:txN a++u=txN b++v):a=b∧u=v:=by
 have en:∀ z:yC,z≠[]→txN z=zp2 (z.map txT) [32,43,32]:=fun z hz=>by
  unfold txN zXW; rw [z3N,if_neg (by simpa using hz)]
 have e0:txN []=[48]:=by unfold txN zXW; rw [txTs,if_pos rfl]
 have h48:∀ z:yC,z≠[]→(∀ t∈z,gT V t)→∃ c r,txN z=c::r∧c≠48:=fun z hz hg=>by
  rw [en z hz];cases z with
  | nil=>exact absurd rfl hz
  | cons t r=>
   obtain ⟨c,s,e,hc⟩:=z7N (hg t (by simp))
   cases r with
   | nil=>exact ⟨c,s,by simp only [List.map,zp2]; exact e,hc⟩
   | cons t' r=>exact ⟨c,_,by simp only [List.map,zp2]; rw [e]; rfl,hc⟩
 by_cases a0:a=[]
 ·by_cases b0:b=[]
  ·rw [a0,b0] at h;exact ⟨by rw [a0,b0],List.append_cancel_left h⟩
  ·obtain ⟨c,r,e,hc⟩:=h48 b b0 hb;rw [a0,e0,e] at h;simp only [List.cons_append,qj] at h;exact absurd h.1.symm hc
 ·by_cases b0:b=[]
  ·obtain ⟨c,r,e,hc⟩:=h48 a a0 ha;rw [b0,e0,e] at h;simp only [List.cons_append,qj] at h;exact absurd h.1 hc
  ·rw [en a a0,en b b0] at h;exact zKH txT SN 32 [43,32] (gT V) (by decide) (fun x y px py u v hu hv e=>zbac hA px py hu hv e) a b a0 b0 ha hb u v hu hv h
theorem z8b:∀ m,RdN (zc3 m)∧RdA (zc3 m):=by
 intro m;induction m with
 | zero=>
  have:RdN (zc3 0):=fun a b ha=>by cases ha
  exact ⟨this,z6i this⟩
 | succ m ih=>
  have:RdN (zc3 (m+1)):=fun a b ha hb wa wb u v hu hv h=>by
   have key:∀ z,zc3 (m+1) z=true→zhx z→∀ t∈z,gT (zc3 m) t:=fun z hz wz t ht=>by
    obtain ⟨⟨c1,c2⟩,hok⟩:=zES hz ht;have hwt:=zvE (zA3 (zxZ wz t ht)).2.1;exact ⟨⟨c1,by omega⟩,fun f hf=>⟨(zAO hok hf).2,(zx4 (hwt f hf)).1,zto (zx4 (hwt f hf)).2⟩⟩
   exact z9N ih.2 (key a ha wa) (key b hb wb) hu hv h
  exact ⟨this,z6i this⟩
theorem z89 {m:Nat} {l l':yD} (h1:∀ f∈l,gF (zc3 m) f) (h2:∀ f∈l',gF (zc3 m) f) (h:txL l=txL l'):l=l':=by
 have e0:txL []=[]:=by unfold txL; rw [txFs]; rfl
 by_cases l0:l=[]
 ·by_cases l0':l'=[]
  ·rw [l0,l0']
  ·obtain ⟨c,r,e,_⟩:=zCS l0' h2;rw [l0,e0,e] at h; cases h
 ·by_cases l0':l'=[]
  ·obtain ⟨c,r,e,_⟩:=zCS l0 h1;rw [l0',e0,e] at h; cases h
  ·exact (z0H (z8b m).2 l0 l0' h1 h2 (u:=[]) (v:=[]) (fun c hc=>by cases hc) (fun c hc=>by cases hc) (by rw [h])).1
end Go.Proofs.YtljlfiomikifjaaGreatDoor
end
