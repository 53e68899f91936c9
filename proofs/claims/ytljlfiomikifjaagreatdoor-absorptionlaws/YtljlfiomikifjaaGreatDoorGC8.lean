/- Texts of this claim, joined (the program, its functions in plain words, and what they compute). -/
import Derived.Test.YtljlfiomikifjaaGreatDoorGC7
set_option autoImplicit false
set_option linter.unusedVariables false
set_option linter.unusedSectionVars false
set_option linter.unusedSimpArgs false
set_option maxRecDepth 1000000
set_option maxHeartbeats 0
/- Which annotations are valid: both sides compute the same. -/
noncomputable section
namespace Go.Proofs.YtljlfiomikifjaaGreatDoor
open Go Go.Ab
def rz (r:RowID):Bool:=r.Table==(0:Int)&&(r.Seq==(0:Int)&&true)
def zqA (V:yC→Bool) (l:yA):Bool:=l.all fun a=>V a&& !(a.length==0)
def zDj (V:yC→Bool) (l:yE):Bool:=l.all fun w=>V w.Ann&& !(w.Ann.length==0)
def zAK (r:RowID):Bool:=decide (r.Table≥1)&&decide (r.Seq≥1)
def zGU (p:yC→Bool):yA→Bool
 | [a]=>p a
 | _=>false
def z4U (p:yC→yC→Bool):yA→Bool
 | [a,b]=>p a b
 | _=>false
def zd9 (V:yC→Bool) (x:At):Bool:=
 zqA V x.Ag&&
 if x.Kind=0 then plA x&&zAK x.Row&&(x.Ag.length==0)
 else rz x.Row&&
  if x.Kind=1 then plA x&&z4U (fun a b=> !decide (a=b)) x.Ag
  else if x.Kind=2 then plA x&&zGU (fun a=> !isC a&& !isU a) x.Ag
  else if x.Kind=3 then plA x&&zGU (fun a=> !zyE a) x.Ag
  else if x.Kind=4 then (x.Ag.length==0)&&decide (0<x.Items.length)&&zDj V x.Items&&zXU x.Items&&zBE x.Func x.Items x.Op x.Bd
  else false
def zPO (vat:At→Bool) (fs:yD) (k:Nat):Bool:=
 decide (1≤(fs.getD k default).Exp)&& !(((fs.getD k default).At.Kind==3||(fs.getD k default).At.Kind==4)&&(fs.getD k default).Exp != 1)&&
  (decide (k=0)||decide (zbc (zdD (fs.getD (k - 1) default).At) (zdD (fs.getD k default).At)<0))&&vat (fs.getD k default).At
def okF (vat:At→Bool) (fs:yD):Bool:=zeV (zPO vat fs) fs.length 0
def zEJ (vat:At→Bool) (a:yC) (i:Nat):Bool:=
 decide (1≤(a.getD i default).Cf)&&decide ((a.getD i default).Cf≤1152921504606846976)&&
  (decide (i=0)||decide (zbO (zbD (a.getD (i - 1) default).Fs) (zbD (a.getD i default).Fs)<0))&&okF vat (a.getD i default).Fs
def zyz (vat:At→Bool) (a:yC):Bool:=zeD a&&zeV (zEJ vat a) a.length 0
def zbF:Nat→yC→Bool
 | 0,_=>false
 | n+1,a=>zyz (zd9 (zbF n)) a
theorem zEM (r:RowID):zqX r=(true,zAK r):=by
 unfold zqX zRA zAK;rw [Wy.fin_i,Wy.fin_k,Wy.fin_k];cases decide (r.Table≥1) <;>rfl
theorem zEO {V:yC→Bool} {x:At} (h:zd9 V x=true):0≤x.Kind∧x.Kind≤4:=by
 unfold zd9 at h;by_cases h0:x.Kind=0
 ·omega
 by_cases h1:x.Kind=1
 ·omega
 by_cases h2:x.Kind=2
 ·omega
 by_cases h3:x.Kind=3
 ·omega
 by_cases h4:x.Kind=4
 ·omega
 simp [h0,h1,h2,h3,h4] at h
theorem zwR (l k:Nat):((Int.ofNat l)==(k:Int))=(l==k):=by
 rw [zgv,z1x]; congr 1; simp; omega
section
variable (V:yC→Bool) (gW:yE→Bool×Bool) (gA:yA→Bool×Bool) (c1:yC→Bool×Bool) (c2:Wd→Bool×Bool)
theorem z5t (x:At) {d:Nat} (hx:zcY (zp d) x) (hd:d≤99) (hA:gA x.Ag=(true, !zqA V x.Ag)) (hW:gW x.Items=(true, !zDj V x.Items)):
  zjI gA c1 gW c2 x=(true,zd9 V x):=by
 have hS:=zbas x.Items hx.1.2.1 (fun w hw=>(hx.2.2 w hw).2) hd
 have hF:=z4r x.Func x.Items x.Op x.Bd hx.1.2.1;have hE:∀ a∈x.Ag,∀ b,zcv a b=(true,decide (a=b)):=fun a ha b=>zrG (hx.2.1 a ha) (by omega) b
 have hC:∀ a∈x.Ag,ze6 a=(true,zyE a):=fun a ha=>zR3 a (by
  have:=hx.2.1 a ha;cases d with
  | zero=>exact this.elim
  | succ d=>have:=this.1; omega)
 obtain ⟨k,r,l,f,its,o,b⟩:=x;simp only at hA hW hS hF hE hC;unfold zjI zce zd9 plA;simp only [zEM,hA,hW,hS,hF,Wy.fin_i,Wy.fin_k,Wy.fin_bn,cond_true]
 rw [show (b.Kind==(0:Int)&&(b.Int==(0:Int)&&(b.Text.toList==(ByteArray.mk #[]).toList&&true)))=bz b from rfl,
  show (r.Table==(0:Int)&&(r.Seq==(0:Int)&&true))=rz r from rfl,
  show (Int.ofNat its.length != 0)= !(its.length==0) from congrArg not (zwR its.length 0),show (f != 0)= !(f==0) from rfl,show (o != 0)= !(o==0) from rfl]
 generalize zqA V l=A at *;generalize zDj V its=W at *;generalize bz b=B at *;generalize (f==0)=F at *;generalize (o==0)=O at *;generalize rz r=R at *;generalize zAK r=RO at *;generalize zXU its=S at *;generalize zBE f its o b=K at *;have hgt:decide (Int.ofNat its.length>0)=decide (0<its.length):=zrq its.length 0;rw [hgt];generalize (its.length==0)=I at *;generalize decide (0<its.length)=J at *;by_cases h0:k=0
 ·subst h0;simp only [zwR,show ((Int.ofNat l.length)==(0:Int))=(l.length==0) from zwR l.length 0]
  generalize (l.length==0)=L;cases F <;>cases I <;>cases O <;>cases B <;>cases A <;>cases RO <;>rfl
 by_cases h1:k=1
 ·subst h1
  match l,hE with
  | [],_=>cases F <;>cases I <;>cases O <;>cases B <;>cases A <;>cases R <;>rfl
  | [u],_=>cases F <;>cases I <;>cases O <;>cases B <;>cases A <;>cases R <;>rfl
  | [u,v],hE=>
   have e:=hE u (by simp) v
   simp only [List.getD,qf,List.length_nil,Int.toNat_zero,List.getElem?_cons_zero,List.getElem?_cons_succ,Option.getD,show Int.toNat 1=1 from rfl,z4U]
   simp only [e];generalize decide (u=v)=E;cases F <;>cases I <;>cases O <;>cases B <;>cases A <;>cases R <;>rfl
  | u::v::w::l,_=>
   have e:((Int.ofNat (u::v::w::l).length)==(2:Int))=false:=by rw [beq_eq_false_iff_ne]; simp; omega
   simp only [e];cases F <;>cases I <;>cases O <;>cases B <;>cases A <;>cases R <;>rfl
 by_cases h2:k=2
 ·subst h2
  match l with
  | []=>cases F <;>cases I <;>cases O <;>cases B <;>cases A <;>cases R <;>rfl
  | [u]=>
   simp only [List.getD,qf,List.length_nil,Int.toNat_zero,List.getElem?_cons_zero,Option.getD,zGU,zUA,z6S];generalize isC u=E;generalize isU u=E';cases F <;>cases I <;>cases O <;>cases B <;>cases A <;>cases R <;>cases E <;>cases E' <;>rfl
  | u::v::l=>
   simp only [zO7];cases F <;>cases I <;>cases O <;>cases B <;>cases A <;>cases R <;>rfl
 by_cases h3:k=3
 ·subst h3
  match l,hC with
  | [],_=>cases F <;>cases I <;>cases O <;>cases B <;>cases A <;>cases R <;>rfl
  | [u],hC=>
   have e:=hC u (by simp)
   simp only [List.getD,qf,List.length_nil,Int.toNat_zero,List.getElem?_cons_zero,Option.getD,zGU];simp only [e];generalize zyE u=E;cases F <;>cases I <;>cases O <;>cases B <;>cases A <;>cases R <;>cases E <;>rfl
  | u::v::l,_=>
   simp only [zO7];cases F <;>cases I <;>cases O <;>cases B <;>cases A <;>cases R <;>rfl
 by_cases h4:k=4
 ·subst h4;simp only [show ((Int.ofNat l.length)==(0:Int))=(l.length==0) from zwR l.length 0]
  generalize (l.length==0)=L;cases A <;>cases W <;>cases L <;>cases J <;>cases S <;>cases K <;>cases R <;>rfl
 simp only [zgv,h0,h1,h2,h3,h4,decide_false,if_false,cond_false];cases F <;>cases I <;>cases O <;>cases B <;>cases A <;>cases R <;>rfl
end
section
variable (V:yC→Bool) (g:yC→Bool×Bool)
theorem zbis (x:At) (hl:x.Ag.length≤1000000) (hg:∀ a∈x.Ag,g a=(true,V a)) (n:Nat) (hn:x.Ag.length<n):zxy g n 0 x=(true,bif zqA V x.Ag then .inr x else .inl false):=by
 have:=zd7 (W:=zw2 g) (z:=.inl default) x.Ag.length (fun i=>((),(i:Int),())) (fun _=>(x,())) (fun i=>(fun a:yC=>V a&& !(a.length==0)) (x.Ag.getD i default)) (.inl false) (.inr x)
  (fun i hi H K D=>by
   show (zk2 g i x).ev H K D=_;unfold zk2;have hL:decide ((i:Int)<Int.ofNat x.Ag.length)=true:=by simp [hi]
   simp only [Wy.ev_i,Wy.ev_k,Wy.ev_h,Wy.ev_bn,Wy.ev_d,hL,zfe,Bool.and_self,cond_true,Int.toNat_natCast,hg _ (zu hi)];rw [zV (by omega),show (Int.ofNat (x.Ag.getD i default).length==(0:Int))=((x.Ag.getD i default).length==0) from zwR _ 0]
   cases V (x.Ag.getD i default) <;>cases ((x.Ag.getD i default).length==0) <;>rfl)
  (fun H K D=>by
   show (zk2 g x.Ag.length x).ev H K D=_;unfold zk2;have hL:decide ((x.Ag.length:Int)<Int.ofNat x.Ag.length)=false:=by simp
   simp only [Wy.ev_i,Wy.ev_k,hL,cond_false]) n hn
 rw [zAn (fun a:yC=>V a&& !(a.length==0))] at this
 exact this
theorem z8g {τ:Type} [Inhabited τ] (l:List τ) (i:Nat) (h:i<l.length):List.take 1 (List.drop i l)=[l.getD i default]:=by
 rw [zbG h]; rfl
theorem zbfC (x y:TT):zbO [x] [y]=zbc x y:=by
 simp only [zbO];split
 ·rename_i h; exact h.symm
 ·rfl
theorem zbhm (x:At) {d:Nat} (hx:zcY (zp d) x) (hd:d≤99) (hg:∀ a∈x.Items,g a.Ann=(true,V a.Ann)) (n:Nat) (hn:x.Items.length<n):zDi g n 0 x=(true,bif zDj V x.Items&&zXU x.Items then .inr () else .inl false):=by
 have hl:x.Items.length≤1000000:=hx.1.2.1
 have:=zd7 (W:=zvg g) (z:=.inl default) x.Items.length (fun i=>((),(i:Int),())) (fun _=>(x,())) (fun i=>(fun w:Wd=>V w.Ann&& !(w.Ann.length==0)) (x.Items.getD i default)&&zTA x.Items i) (.inl false) (.inr ())
  (fun i hi H K D=>by
   show (zks g i x).ev H K D=_;unfold zks;have hL:decide ((i:Int)<Int.ofNat x.Items.length)=true:=by simp [hi]
   simp only [Wy.ev_i,Wy.ev_k,Wy.ev_h,Wy.ev_bn,Wy.ev_d,hL,zfe,Bool.and_self,cond_true,Int.toNat_natCast,hg _ (zu hi)];rw [zV (by omega),show (Int.ofNat (x.Items.getD i default).Ann.length==(0:Int))=((x.Items.getD i default).Ann.length==0) from zwR _ 0]
   cases V (x.Items.getD i default).Ann <;>cases ((x.Items.getD i default).Ann.length==0) <;>try rfl
   simp only [cond_true,cond_false,Bool.not_true,Bool.not_false,Bool.and_self,Bool.true_and];cases i with
   | zero=>rfl
   | succ i=>
    have hi':i<x.Items.length:=by omega
    have hw:IntKind.i64.wrap (((i+1:Nat):Int) - 1)=(i:Int):=by rw [zzP (by omega) (by omega)]; rfl
    have e1:(decide ((0:Int)≤(i:Int))&&decide ((i:Int)≤((i+1:Nat):Int))&&decide (((i+1:Nat):Int)≤Int.ofNat x.Items.length))=true:=by
     simp; try omega
    have e2:(decide (((i+1:Nat):Int)≤((i+1+1:Nat):Int))&&decide (((i+1+1:Nat):Int)≤Int.ofNat x.Items.length))=true:=by
     simp; try omega
    have e3:decide (((i+1:Nat):Int)>0)=true:=by simp; try omega
    simp only [hw,e1,e2,e3,cond_true,Bool.true_and,Int.toNat_natCast,show i+1 - i=1 by omega,show i+1+1 - (i+1)=1 by omega,z8g _ _ hi,z8g _ _ hi']
    rw [zC2 (d:=d) (by simp) (fun w hw=>by
     rw [qh] at hw; subst hw; exact (hx.2.2 _ (zu hi')).2) hd,zmX,zmX]
    simp only [List.map,zbfC,cond_true,zTA,show i+1 - 1=i from rfl]
    have e4:decide (i+1=0)=false:=by simp
    rw [e4,Bool.false_or];generalize zbc (zbf (x.Items.getD i default)) (zbf (x.Items.getD (i+1) default))=z;by_cases hz:z>0
    ·have:¬ z≤0:=by omega
     simp only [hz,this,decide_true,decide_false,cond_true,cond_false]
    ·have:z≤0:=by omega
     simp only [hz,this,decide_true,decide_false,cond_true,cond_false])
  (fun H K D=>by
   show (zks g x.Items.length x).ev H K D=_;unfold zks;have hL:decide ((x.Items.length:Int)<Int.ofNat x.Items.length)=false:=by simp
   simp only [Wy.ev_i,Wy.ev_k,hL,cond_false]) n hn
 rw [z9e (fun i=>(fun w:Wd=>V w.Ann&& !(w.Ann.length==0)) (x.Items.getD i default)),zAn (fun w:Wd=>V w.Ann&& !(w.Ann.length==0))] at this
 exact this
theorem zY4 {A ρ:Type} (s:A) (k:A→Wy0 ρ) (z:ρ):(Wy.bn (true,s) k).fin z=(k s).fin z:=rfl
theorem z3s (x:At) {d:Nat} (hx:zcY (zp d) x) (hd:d≤99) (h10:x.Items.length≤1024) (hV:∀ a,V a=true→isB a=isU a) (hgA:∀ a∈x.Ag,g a=(true,V a)) (hgI:∀ a∈x.Items,g a.Ann=(true,V a.Ann)):
  zo2 g x=(true,zd9 V x):=by
 have hS:=fun n hn=>zbhm V g x hx hd hgI n hn
 have hA:=fun n hn=>zbis V g x hx.1.1 hgA n hn
 have hF:=zbai x.Func x.Items x.Op x.Bd hx.1.2.1;have hE:∀ a∈x.Ag,∀ b,ztn a b=(true,decide (a=b)):=fun a ha b=>zUN (hx.2.1 a ha) (by omega) b
 have hC:∀ a∈x.Ag,ziD a=(true,zyE a):=fun a ha=>zBU a (by
  have:=hx.2.1 a ha;cases d with
  | zero=>exact this.elim
  | succ d=>have:=this.1; omega)
 have hP:=zbeg x;unfold zo2 zFE zd9;obtain ⟨s,hs1,hs2⟩:∃ s,zxy g (Int.toNat (0:Int)+x.Ag.length+x.Items.length+(1:Nat)) 0 x=(true,s)∧s=bif zqA V x.Ag then .inr x else .inl false:=⟨_,hA _ (by omega),rfl⟩
 rw [At.eta,hP,hs1];simp only [Wy.fin_i,Wy.fin_k,zY4];simp only [Wy.fin_i,Wy.fin_k,Wy.fin_bn,cond_true];rw [show (x.Row.Table==(0:Int)&&(x.Row.Seq==(0:Int)&&true))=rz x.Row from rfl]
 have b0:(x.Kind==(0:Int))=decide (x.Kind=0):=zgv _ _;have b1:(x.Kind==(1:Int))=decide (x.Kind=1):=zgv _ _;have b2:(x.Kind==(2:Int))=decide (x.Kind=2):=zgv _ _;have b3:(x.Kind==(3:Int))=decide (x.Kind=3):=zgv _ _;have b4:(x.Kind==(4:Int))=decide (x.Kind=4):=zgv _ _;by_cases h0:x.Kind=0
 ·rw [b0];simp only [h0,decide_true,cond_true,if_true];rw [show (Int.ofNat x.Ag.length==(0:Int))=(x.Ag.length==0) from zwR _ 0]
  unfold zAK
  match hl:x.Ag with
  | []=>cases decide (x.Row.Table≥1) <;>cases decide (x.Row.Seq≥1) <;>cases plA x <;>rfl
  | u::l=>cases decide (x.Row.Table≥1) <;>cases decide (x.Row.Seq≥1) <;>cases plA x <;>cases zqA V (u::l) <;>rfl
 rw [b0];simp only [h0,decide_false,cond_false,if_false];cases hA:zqA V x.Ag with
 | false=>rw [hs2,hA]; cases rz x.Row <;>rfl
 | true=>
 rw [hA,cond_true] at hs2;have hy:getR s=x:=by rw [hs2]; rfl
 have hy2:isL s=false:=by rw [hs2]; rfl
 rw [hy2];generalize getR s=y at hy ⊢;subst hy;cases rz y.Row with
 | false=>rfl
 | true=>
 simp only [Bool.not_true,cond_false,cond_true,isL,getR,Bool.true_and,At.eta,hP,hF,b1,b2,b3,b4];by_cases h1:y.Kind=1
 ·simp only [h1,decide_true,cond_true,if_true]
  match hl:y.Ag with
  | []=>cases plA y <;>rfl
  | [u]=>cases plA y <;>rfl
  | [u,v]=>
   have e:=hE u (by rw [hl]; simp) v
   simp only [List.getD,qf,List.length_nil,Int.toNat_zero,List.getElem?_cons_zero,List.getElem?_cons_succ,Option.getD,show Int.toNat 1=1 from rfl,z4U]
   simp only [e];generalize decide (u=v)=E;cases plA y <;>rfl
  | u::v::w::l=>
   have e:((Int.ofNat (u::v::w::l).length)==(2:Int))=false:=by rw [beq_eq_false_iff_ne]; simp; omega
   simp only [e];cases plA y <;>rfl
 simp only [h1,decide_false,cond_false,if_false];by_cases h2:y.Kind=2
 ·simp only [h2,decide_true,cond_true,if_true]
  match hl:y.Ag with
  | []=>cases plA y <;>rfl
  | [u]=>
   have e:=hC u (by rw [hl]; simp)
   have eV:V u=true:=by
    rw [hl] at hA;unfold zqA at hA;simp at hA;exact hA.1
   simp only [List.getD,qf,List.length_nil,Int.toNat_zero,List.getElem?_cons_zero,Option.getD,zGU,zOv,e,hV u eV]
   match u with
   | []=>cases plA y <;>rfl
   | [t]=>
    have e1:zyE [t]=(t.Fs.length==0):=by simp [zyE]
    have e2:isC [t]=(t.Fs.length==0):=rfl;rw [e1,e2];cases plA y <;>cases (t.Fs.length==0) <;>cases isU [t] <;>rfl
   | t::s::r=>
    simp only [zO7];cases plA y <;>rfl
  | u::v::l=>
   simp only [zO7];cases plA y <;>rfl
 simp only [h2,decide_false,cond_false,if_false];by_cases h3:y.Kind=3
 ·simp only [h3,decide_true,cond_true,if_true]
  match hl:y.Ag with
  | []=>cases plA y <;>rfl
  | [u]=>
   have e:=hC u (by rw [hl]; simp)
   simp only [List.getD,qf,List.length_nil,Int.toNat_zero,List.getElem?_cons_zero,Option.getD,zGU];simp only [e];cases plA y <;>cases zyE u <;>rfl
  | u::v::l=>
   simp only [zO7];cases plA y <;>rfl
 simp only [h3,decide_false,cond_false,if_false];by_cases h4:y.Kind=4
 ·have e10:decide (Int.ofNat y.Items.length>(1024:Int))=false:=by simp; omega
  rw [hS _ (by omega)]
  rw [e10];simp only [h4,decide_true,cond_true,if_true,cond_false];rw [show (Int.ofNat y.Ag.length != (0:Int))= !(y.Ag.length==0) from congrArg not (zwR y.Ag.length 0),show (Int.ofNat y.Items.length==(0:Int))=(y.Items.length==0) from zwR y.Items.length 0]
  have e11:decide (0<y.Items.length)= !(y.Items.length==0):=by
   rw [z1x];by_cases h:y.Items.length=0
   ·simp [h]
   ·have:0<y.Items.length:=by omega
    simp [h,this]
  rw [e11];cases (y.Ag.length==0) <;>cases (y.Items.length==0) <;>cases zBE y.Func y.Items y.Op y.Bd <;>cases zDj V y.Items <;>cases zXU y.Items <;>rfl
 simp only [h4,decide_false,cond_false,if_false]
end
section
variable (V:yC→Bool) (vat:At→Bool)
theorem V_9 (g:At→Bool×Bool) (a t10:yC) (t11 t12:Int) (t:Term) {d:Nat} (ht:zdG (zp d) t.Fs) (hd:d≤99) (hg:∀ f∈t.Fs,g f.At=(true,vat f.At)) (n:Nat) (hn:t.Fs.length<n):
  zvu g n a t10 t11 t12 t.Fs t.Fs.length 0 t=(true,bif okF vat t.Fs then .inr (a,t10,t11,t12) else .inl false):=by
 have hl:=ht.1
 exact zd7 (W:=zvl g) (z:=.inl default) t.Fs.length (fun k=>(a,(),t10,t11,t12,t.Fs,(t.Fs.length:Int),(k:Int),())) (fun _=>(t,())) (zPO vat t.Fs) (.inl false) (.inr (a,t10,t11,t12))
  (fun k hk H K D=>by
   show (zkl g a t10 t11 t12 t.Fs t.Fs.length k t).ev H K D=_;unfold zkl zPO
   have hgt:decide ((k:Int)>0)= !decide (k=0):=by
    by_cases h:k=0
    ·subst h; rfl
    ·have:0<k:=by omega
     simp [h,this]
   simp only [At.eta,Wy.ev_i,Wy.ev_k,Wy.ev_h,Wy.ev_bn,Wy.ev_d,tT,hk,z5q,hg _ (zu hk),hgt];rw [zV (by omega)]
   have e1:decide ((t.Fs.getD k default).Exp<1)= !decide (1≤(t.Fs.getD k default).Exp):=by
    by_cases h:1≤(t.Fs.getD k default).Exp
    ·have:¬ (t.Fs.getD k default).Exp<1:=by omega
     simp only [h,this,decide_true,decide_false,Bool.not_true]
    ·have:(t.Fs.getD k default).Exp<1:=by omega
     simp only [h,this,decide_true,decide_false,Bool.not_false]
   rw [e1];generalize decide (1≤(t.Fs.getD k default).Exp)=E1;generalize ((t.Fs.getD k default).Exp != 1)=E2;generalize ((t.Fs.getD k default).At.Kind==3||(t.Fs.getD k default).At.Kind==4)=E3;by_cases h0:k=0
   ·simp only [h0,decide_true,Bool.not_true,cond_false,Bool.true_or,Bool.and_true];cases E1 <;>cases E2 <;>cases E3 <;>cases vat (t.Fs.getD 0 default).At <;>rfl
   ·have hp:IntKind.i64.wrap ((k:Int) - 1)=((k - 1:Nat):Int):=zzP (by omega) (by omega)
    have hk':k - 1<t.Fs.length:=by omega
    have hfx:zcY (zp d) (t.Fs.getD (k - 1) default).At:=ht.2 _ (zu hk')
    have e2:∀ z:Int,decide (z≥0)= !decide (z<0):=fun z=>by
     by_cases h:z<0
     ·have:¬ z≥0:=by omega
      simp [h,this]
     ·have:z≥0:=by omega
      simp [h,this]
    simp only [h0,hp,tT,hk',zxR hfx hd,e2,Bool.false_or];generalize decide (zbc (zdD (t.Fs.getD (k - 1) default).At) (zdD (t.Fs.getD k default).At)<0)=E4;cases E1 <;>cases E2 <;>cases E3 <;>cases E4 <;>cases vat (t.Fs.getD k default).At <;>rfl)
  (fun H K D=>by
   show (zkl g a t10 t11 t12 t.Fs t.Fs.length t.Fs.length t).ev H K D=_;unfold zkl;simp only [Wy.ev_i,Wy.ev_k,tT,Nat.lt_irrefl]) n hn
theorem V_4 (g:At→Bool×Bool) (a:yC) {d:Nat} (h:zp (d+1) a) (hd:d≤99) (hg:∀ t∈a,∀ f∈t.Fs,g f.At=(true,vat f.At)) (n:Nat) (hn:a.length<n):
  zC6 g n a a a.length 0=(true,bif zeV (zEJ vat a) a.length 0 then .inr () else .inl false):=by
 have hl:=h.1
 exact zd7 (W:=zvN g) (z:=.inl default) a.length (fun k=>(a,a,(a.length:Int),(k:Int),())) (fun _=>()) (zEJ vat a) (.inl false) (.inr ())
  (fun k hk H K D=>by
   show (zkn g a a a.length k).ev H K D=_;unfold zkn zEJ;have ht:=h.2 _ (zu hk)
   have hgt:decide ((k:Int)>0)= !decide (k=0):=by
    by_cases h:k=0
    ·subst h; rfl
    ·have:0<k:=by omega
     simp [h,this]
   simp only [At.eta,Wy.ev_i,Wy.ev_k,Wy.ev_h,Wy.ev_bn,Wy.ev_d,tT,hk,hgt];rw [V_9 vat g a a a.length k _ ht hd (hg _ (zu hk)) _ (by omega)]
   have e1:decide ((a.getD k default).Cf<1)= !decide (1≤(a.getD k default).Cf):=by
    by_cases h:1≤(a.getD k default).Cf
    ·have:¬ (a.getD k default).Cf<1:=by omega
     simp only [h,this,decide_true,decide_false,Bool.not_true]
    ·have:(a.getD k default).Cf<1:=by omega
     simp only [h,this,decide_true,decide_false,Bool.not_false]
   have e3:decide ((a.getD k default).Cf>1152921504606846976)= !decide ((a.getD k default).Cf≤1152921504606846976):=by
    by_cases h:(a.getD k default).Cf≤1152921504606846976
    ·have:¬ (a.getD k default).Cf>1152921504606846976:=by omega
     simp only [h,this,decide_true,decide_false,Bool.not_true]
    ·have:(a.getD k default).Cf>1152921504606846976:=by omega
     simp only [h,this,decide_true,decide_false,Bool.not_false]
   rw [e1,e3];generalize decide (1≤(a.getD k default).Cf)=E1;generalize decide ((a.getD k default).Cf≤1152921504606846976)=E2;by_cases h0:k=0
   ·subst h0;simp only [decide_true,Bool.not_true,cond_false,Bool.true_or,Bool.and_true];cases okF vat (a.getD 0 default).Fs <;>cases E1 <;>cases E2 <;>try rfl
   ·have hp:IntKind.i64.wrap ((k:Int) - 1)=((k - 1:Nat):Int):=zzP (by omega) (by omega)
    have hk':k - 1<a.length:=by omega
    have hfx:zdG (zp d) (a.getD (k - 1) default).Fs:=h.2 _ (zu hk')
    have e2:∀ z:Int,decide (z≥0)= !decide (z<0):=fun z=>by
     by_cases h:z<0
     ·have:¬ z≥0:=by omega
      simp [h,this]
     ·have:z≥0:=by omega
      simp [h,this]
    simp only [h0,hp,tT,hk',zx5 hfx hd,e2,Bool.false_or];generalize decide (zbO (zbD (a.getD (k - 1) default).Fs) (zbD (a.getD k default).Fs)<0)=E4;cases okF vat (a.getD k default).Fs <;>cases E1 <;>cases E2 <;>cases E4 <;>try rfl
    simp only [cond_true,cond_false,Bool.not_true,isL,getR,Bool.and_self];rw [zV (by omega),decide_eq_false (show ¬ ((k - 1:Nat):Int)<0 by omega)]; rfl)
  (fun H K D=>by
   show (zkn g a a a.length a.length).ev H K D=_;unfold zkn;simp only [Wy.ev_i,Wy.ev_k,tT,Nat.lt_irrefl]) n hn
theorem zbcY (g:At→Bool×Bool) (a:yC) {d:Nat} (h:zp (d+1) a) (hd:d≤99) (hs:zN a≤4611686018427387904) (hg:∀ t∈a,∀ f∈t.Fs,g f.At=(true,vat f.At)):zm9 g a=(true,zyz vat a):=by
 unfold zm9 zD3 zyz;have:=V_4 vat g a h hd hg (a.length+a.length+(Int.ofNat a.length).toNat +Int.toNat (0:Int)+(1:Nat)) (by omega)
 rw [show Int.ofNat a.length=(a.length:Int) from rfl] at *
 simp only [Wy.fin_i,Wy.fin_k,Wy.fin_bn,z6O h (by omega) hs,this,cond_true]
 cases zeD a <;>cases zeV (zEJ vat a) a.length 0 <;>rfl
theorem zbir (g:At→Bool×Bool) (a:yC) (i:Int) (t:Term) {d:Nat} (ht:zdG (zp d) t.Fs) (hd:d≤99) (hg:∀ f∈t.Fs,g f.At=(true,vat f.At)) (hk:∀ x,vat x=true→0≤x.Kind∧x.Kind≤4) (n:Nat) (hn:t.Fs.length<n):
  zBD g n a i 0 t=(true,bif okF vat t.Fs then .inr (a,i) else .inl false):=by
 have hl:=ht.1
 exact zd7 (W:=zBX g) (z:=.inl default) t.Fs.length (fun k=>(a,i,(),(k:Int),())) (fun _=>(t,())) (zPO vat t.Fs) (.inl false) (.inr (a,i))
  (fun k hk1 H K D=>by
   show (zoD g a i k t).ev H K D=_;unfold zoD zPO
   have hgt:decide ((k:Int)>0)= !decide (k=0):=by
    by_cases h:k=0
    ·subst h; rfl
    ·have:0<k:=by omega
     simp [h,this]
   simp only [At.eta,Wy.ev_i,Wy.ev_k,Wy.ev_h,Wy.ev_bn,Wy.ev_d,tT,hk1,hg _ (zu hk1),hgt];rw [zV (by omega)]
   have hk2:=hk (t.Fs.getD k default).At
   have e1:decide ((t.Fs.getD k default).Exp<1)= !decide (1≤(t.Fs.getD k default).Exp):=by
    by_cases h:1≤(t.Fs.getD k default).Exp
    ·have:¬ (t.Fs.getD k default).Exp<1:=by omega
     simp only [h,this,decide_true,decide_false,Bool.not_true]
    ·have:(t.Fs.getD k default).Exp<1:=by omega
     simp only [h,this,decide_true,decide_false,Bool.not_false]
   rw [e1];by_cases hx1:1≤(t.Fs.getD k default).Exp
   rotate_left
   ·simp only [hx1,decide_false,Bool.not_false,cond_true,Bool.false_and,cond_false]
   cases hv:vat (t.Fs.getD k default).At with
   | false=>
    rw [Bool.and_false];cases decide (1≤(t.Fs.getD k default).Exp) <;>cases decide ((t.Fs.getD k default).Exp>1) <;>cases decide ((t.Fs.getD k default).At.Kind≥3) <;>rfl
   | true=>
   obtain ⟨k1,k2⟩:=hk2 hv
   have e5:((t.Fs.getD k default).At.Kind==3||(t.Fs.getD k default).At.Kind==4)=decide ((t.Fs.getD k default).At.Kind≥3):=by
    rw [zgv,zgv, ← Bool.decide_or];congr 1;apply propext; omega
   have e6:((t.Fs.getD k default).Exp != 1)=decide ((t.Fs.getD k default).Exp>1):=by
    rw [zvI, ← decide_not];congr 1;apply propext; omega
   rw [e5,e6];simp only [hx1,decide_true,Bool.not_true,cond_false,Bool.true_and];generalize decide ((t.Fs.getD k default).Exp>1)=E2;generalize decide ((t.Fs.getD k default).At.Kind≥3)=E3;by_cases h0:k=0
   ·simp only [h0,decide_true,Bool.not_true,cond_false,Bool.true_or,Bool.and_true];cases E2 <;>cases E3 <;>rfl
   ·have hp:IntKind.i64.wrap ((k:Int) - 1)=((k - 1:Nat):Int):=zzP (by omega) (by omega)
    have hk':k - 1<t.Fs.length:=by omega
    have hfx:zcY (zp d) (t.Fs.getD (k - 1) default).At:=ht.2 _ (zu hk')
    have e2:∀ z:Int,decide (z≥0)= !decide (z<0):=fun z=>by
     by_cases h:z<0
     ·have:¬ z≥0:=by omega
      simp [h,this]
     ·have:z≥0:=by omega
      simp [h,this]
    simp only [h0,hp,tT,hk',zxo hfx hd,e2,Bool.false_or];generalize decide (zbc (zdD (t.Fs.getD (k - 1) default).At) (zdD (t.Fs.getD k default).At)<0)=E4;cases E2 <;>cases E3 <;>cases E4 <;>rfl)
  (fun H K D=>by
   show (zoD g a i t.Fs.length t).ev H K D=_;unfold zoD;simp only [Wy.ev_i,Wy.ev_k,tT,Nat.lt_irrefl]) n hn
theorem zbiC (g:At→Bool×Bool) (a:yC) {d:Nat} (h:zp (d+1) a) (hd:d≤99) (hg:∀ t∈a,∀ f∈t.Fs,g f.At=(true,vat f.At)) (hk:∀ x,vat x=true→0≤x.Kind∧x.Kind≤4) (n:Nat) (hn:a.length<n):
  zLB g n a 0=(true,bif zeV (zEJ vat a) a.length 0 then .inr () else .inl false):=by
 have hl:=h.1
 exact zd7 (W:=zCR g) (z:=.inl default) a.length (fun k=>(a,(k:Int),())) (fun _=>()) (zEJ vat a) (.inl false) (.inr ())
  (fun k hk1 H K D=>by
   show (zqG g a k).ev H K D=_;unfold zqG zEJ;have ht:=h.2 _ (zu hk1)
   have hgt:decide ((k:Int)>0)= !decide (k=0):=by
    by_cases h:k=0
    ·subst h; rfl
    ·have:0<k:=by omega
     simp [h,this]
   simp only [At.eta,Wy.ev_i,Wy.ev_k,Wy.ev_h,Wy.ev_bn,Wy.ev_d,tT,hk1,hgt];rw [zbir vat g a k _ ht hd (hg _ (zu hk1)) hk _ (by omega)]
   have e1:decide ((a.getD k default).Cf<1)= !decide (1≤(a.getD k default).Cf):=by
    by_cases h:1≤(a.getD k default).Cf
    ·have:¬ (a.getD k default).Cf<1:=by omega
     simp only [h,this,decide_true,decide_false,Bool.not_true]
    ·have:(a.getD k default).Cf<1:=by omega
     simp only [h,this,decide_true,decide_false,Bool.not_false]
   have e3:decide ((a.getD k default).Cf>1152921504606846976)= !decide ((a.getD k default).Cf≤1152921504606846976):=by
    by_cases h:(a.getD k default).Cf≤1152921504606846976
    ·have:¬ (a.getD k default).Cf>1152921504606846976:=by omega
     simp only [h,this,decide_true,decide_false,Bool.not_true]
    ·have:(a.getD k default).Cf>1152921504606846976:=by omega
     simp only [h,this,decide_true,decide_false,Bool.not_false]
   rw [e1,e3];generalize decide (1≤(a.getD k default).Cf)=E1;generalize decide ((a.getD k default).Cf≤1152921504606846976)=E2;by_cases h0:k=0
   ·subst h0;simp only [decide_true,Bool.not_true,cond_false,Bool.true_or,Bool.and_true];cases okF vat (a.getD 0 default).Fs <;>cases E1 <;>cases E2 <;>try rfl
   ·have hp:IntKind.i64.wrap ((k:Int) - 1)=((k - 1:Nat):Int):=zzP (by omega) (by omega)
    have hk':k - 1<a.length:=by omega
    have hfx:zdG (zp d) (a.getD (k - 1) default).Fs:=h.2 _ (zu hk')
    have e2:∀ z:Int,decide (z≥0)= !decide (z<0):=fun z=>by
     by_cases h:z<0
     ·have:¬ z≥0:=by omega
      simp [h,this]
     ·have:z≥0:=by omega
      simp [h,this]
    simp only [h0,hp,tT,hk',zsX hfx hd,e2,Bool.false_or];generalize decide (zbO (zbD (a.getD (k - 1) default).Fs) (zbD (a.getD k default).Fs)<0)=E4;cases okF vat (a.getD k default).Fs <;>cases E1 <;>cases E2 <;>cases E4 <;>try rfl
    simp only [cond_true,cond_false,Bool.not_true,isL,getR,Bool.and_self];rw [zV (by omega),decide_eq_false (show ¬ ((k - 1:Nat):Int)<0 by omega)]; rfl)
  (fun H K D=>by
   show (zqG g a a.length).ev H K D=_;unfold zqG;simp only [Wy.ev_i,Wy.ev_k,tT,Nat.lt_irrefl]) n hn
theorem zbar (g:At→Bool×Bool) (a:yC) {d:Nat} (h:zp (d+1) a) (hd:d≤99) (hs:zN a≤4611686018427387904) (hg:zeD a=true→∀ t∈a,∀ f∈t.Fs,g f.At=(true,vat f.At)) (hk:∀ x,vat x=true→0≤x.Kind∧x.Kind≤4):zxO g a=(true,zyz vat a):=by
 unfold zxO zOE zyz;rw [Wy.fin_bn,zbaZ h (by omega) hs]
 cases hw:zeD a with
 | false=>rfl
 | true=>
  have:=zbiC vat g a h hd (hg hw) hk ((a.length+Int.toNat (0:Int)+(1:Nat))+zb2 a) (by omega)
  simp only [Wy.fin_i,Wy.fin_k,Wy.fin_bn,this,cond_true];cases zeV (zEJ vat a) a.length 0 <;>rfl
end
theorem z1d {l:yA} {a:yC} (h:a∈l):zN a≤zfa l:=by
 induction l with
 | nil=>cases h
 | cons b r ih=>
  rw [zeY];rcases qd.1 h with rfl | h
  ·omega
  ·have:=ih h; omega
theorem zYA {l:yE} {w:Wd} (h:w∈l):zN w.Ann≤zdh l:=by
 induction l with
 | nil=>cases h
 | cons b r ih=>
  rw [zic];rcases qd.1 h with rfl | h
  ·omega
  ·have:=ih h; omega
theorem zYc {m:Nat} {a:yC} (h:zbF m a=true):isB a=isU a:=by
 cases m with
 | zero=>cases h
 | succ m=>
 match a with
 | []=>rfl
 | [t]=>
  simp only [zbF,zyz,qc] at h;have h1:=zem.1 h.2 0 (by omega) (by simp)
  simp only [zEJ,qc] at h1;have h2:=h1.2;obtain ⟨c,fs⟩:=t
  match fs with
  | []=>rfl
  | [f]=>
   have h3:=zem.1 h2 0 (by omega) (by simp)
   simp only [zPO,qc] at h3;have h4:=zEO h3.2;simp only [List.getD_cons_zero] at h4;show (c==1&&(f.Exp==1&&decide (2≤f.At.Kind)))=(c==1&&(f.Exp==1&&(f.At.Kind==2||f.At.Kind==3||f.At.Kind==4)))
   have e:decide (2≤f.At.Kind)=(f.At.Kind==2||f.At.Kind==3||f.At.Kind==4):=by
    rw [zgv,zgv,zgv, ← Bool.decide_or, ← Bool.decide_or];congr 1;apply propext; omega
   rw [e]
  | f::f'::r=>rfl
 | t::u::r=>rfl
theorem zbh7 (g) (l:yA):zcF g l=IG (fun (_:Unit) x=>g x) (l.length+(Int.ofNat l.length).toNat +Int.toNat (0:Int)+(1:Nat)) () l:=rfl
theorem zbh8 (g) (l:yE):zdb g l=IG (fun (_:Unit) x=>g x) (l.length+(Int.ofNat l.length).toNat +Int.toNat (0:Int)+(1:Nat)) () l:=rfl
theorem zOe:∀ n,
  (∀ d m a,zp d a→10*d≤n→d≤m→d≤100→zN a≤4611686018427387904→zky n a=(true,zbF m a))∧
  (∀ d m x,zcY (zp d) x→10*d+9≤n→d≤m→d≤99→zfd x≤4611686018427387904→zm4 n x=(true,zd9 (zbF m) x))∧
  (∀ d m a,zp d a→10*d+6≤n→d≤m→d≤99→zN a≤4611686018427387904→zfg n a=(true, !(zbF m a&& !(a.length==0))))∧
  (∀ d m (w:Wd),zp d w.Ann→10*d+6≤n→d≤m→d≤99→zN w.Ann≤4611686018427387904→zff n w=(true, !(zbF m w.Ann&& !(w.Ann.length==0))))∧
  (∀ d m (l:yA),l.length≤1000000→(∀ a∈l,zp d a∧zN a≤4611686018427387904)→10*d+7≤n→d≤m→d≤99→zcI n l=(true,ixf (fun a=> !(zbF m a&& !(a.length==0))) l 0))∧
  (∀ d m (l:yA),l.length≤1000000→(∀ a∈l,zp d a∧zN a≤4611686018427387904)→10*d+8≤n→d≤m→d≤99→zct n l=(true, !zqA (zbF m) l))∧
  (∀ d m (l:yE),l.length≤1000000→(∀ a∈l,zp d a.Ann∧zN a.Ann≤4611686018427387904)→10*d+7≤n→d≤m→d≤99→zc5 n l=(true,ixf (fun a=> !(zbF m a.Ann&& !(a.Ann.length==0))) l 0))∧
  (∀ d m (l:yE),l.length≤1000000→(∀ a∈l,zp d a.Ann∧zN a.Ann≤4611686018427387904)→10*d+8≤n→d≤m→d≤99→zcM n l=(true, !zDj (zbF m) l))
 | 0=>by
  refine ⟨?_, ?_, ?_, ?_, ?_, ?_, ?_, ?_⟩
  ·intro d m a h hd; have:d=0:=by omega
   subst this; exact h.elim
  all_goals (intros; omega)
 | n+1=>by
  obtain ⟨h1,h2,h3,h4,h5,h6,h7,h8⟩:=zOe n;refine ⟨?_, ?_, ?_, ?_, ?_, ?_, ?_, ?_⟩
  ·intro d m a h hd hm hd2 hs;cases d with
   | zero=>exact h.elim
   | succ d=>
    cases m with
    | zero=>omega
    | succ m=>
     rw [zRI]
     exact zbcY _ _ a h (by omega) hs fun t ht f hf=>h2 d m f.At ((h.2 t ht).2 f hf) (by omega) (by omega) (by omega) (by
      have:=z47 ht hf; rw [zhd]; omega)
  ·intro d m x h hd hm hd2 hs;rw [zKx];rw [zhd] at hs
   exact z5t _ _ _ _ _ x h hd2 (h6 d m _ h.1.1 (fun a ha=>⟨h.2.1 a ha,by have:=z1d ha; omega⟩) (by omega) hm hd2)
    (h8 d m _ h.1.2.1 (fun a ha=>⟨(h.2.2 a ha).2,by have:=zYA ha; omega⟩) (by omega) hm hd2)
  ·intro d m a h hd hm hd2 hs;rw [zFQ];unfold zkN zwA;rw [Wy.fin_bn,h1 d m a h (by omega) hm (by omega) hs]
   simp only [cond_true,Wy.fin_i,Wy.fin_k,show (Int.ofNat a.length==(0:Int))=(a.length==0) from zwR a.length 0]
   cases zbF m a <;>simp
  ·intro d m a h hd hm hd2 hs;rw [zGD];unfold zkF zwD;rw [Wy.fin_bn,h1 d m a.Ann h (by omega) hm (by omega) hs]
   simp only [cond_true,Wy.fin_i,Wy.fin_k,show (Int.ofNat a.Ann.length==(0:Int))=(a.Ann.length==0) from zwR a.Ann.length 0]
   cases zbF m a.Ann <;>simp
  ·intro d m l hl h hd hm hd2;rw [zmU,zbh7];exact zJR _ _ _ _ _ (by omega) (fun x hx=>h3 d m x (h x hx).1 (by omega) hm hd2 (h x hx).2) (by omega)
  ·intro d m l hl h hd hm hd2;rw [zlS];unfold zcq zfo;rw [zkZ (h5 d m l hl h (by omega) hm hd2)]
   simp [zqA,List.all_eq_not_any_not]
  ·intro d m l hl h hd hm hd2;rw [zoH,zbh8];exact zJR _ _ _ _ _ (by omega) (fun x hx=>h4 d m x (h x hx).1 (by omega) hm hd2 (h x hx).2) (by omega)
  ·intro d m l hl h hd hm hd2;rw [znv];unfold zcO zgm;rw [zkZ (h7 d m l hl h (by omega) hm hd2)]
   simp [zDj,List.all_eq_not_any_not]
theorem zbaK {a:yC} (h:zeD a=true) {t:Term} (ht:t∈a) {f:Fc} (hf:f∈t.Fs):f.At.Items.length≤1024∧f.Exp≤64∧t.Fs.length≤64:=by
 simp only [zeD,qc,List.all_eq_true] at h;have:=h.2 t ht;simp only [zCH,Bool.not_eq_true',Bool.or_eq_false_iff,decide_eq_false_iff_not,List.any_eq_false] at this;have h2:=this.2 f hf;simp at h2;omega
theorem z4O:∀ n,
  (∀ d m a,zp d a→3*d≤n→d≤m→d≤100→zN a≤4611686018427387904→zxI n a=(true,zbF m a))∧
  (∀ d m x,zcY (zp d) x→3*d+2≤n→d≤m→d≤99→zfd x≤4611686018427387904→x.Items.length≤1024→zu5 n x=(true,zd9 (zbF m) x))
 | 0=>by
  refine ⟨?_, ?_⟩
  ·intro d m a h hd; have:d=0:=by omega
   subst this; exact h.elim
  ·intros; omega
 | n+1=>by
  obtain ⟨h1,h2⟩:=z4O n;refine ⟨?_, ?_⟩
  ·intro d m a h hd hm hd2 hs;cases d with
   | zero=>exact h.elim
   | succ d=>
    cases m with
    | zero=>omega
    | succ m=>
     rw [z16]
     exact zbar _ _ a h (by omega) hs (fun hw t ht f hf=>h2 d m f.At ((h.2 t ht).2 f hf) (by omega) (by omega) (by omega) (by
      have:=z47 ht hf; rw [zhd]; omega) (zbaK hw ht hf).1) fun x hx=>zEO hx
  ·intro d m x h hd hm hd2 hs h10;rw [zTa];rw [zhd] at hs
   exact z3s _ _ x h hd2 h10 (fun a ha=>zYc ha) (fun a ha=>h1 d m a (h.2.1 a ha) (by omega) hm (by omega) (by have:=z1d ha; omega))
    fun a ha=>h1 d m a.Ann (h.2.2 a ha).2 (by omega) hm (by omega) (by have:=zYA ha; omega)
def zQ (a:yC):Bool:=zbF 100 a
theorem z6T {d:Nat} {a:yC} (h:zp d a) (hd:d≤100) (hs:zN a≤4611686018427387904):zbX a=(true,zQ a):=(zOe 1000).1 d 100 a h (by omega) hd hd hs
theorem z2X {d:Nat} {a:yC} (h:zp d a) (hd:d≤100) (hs:zN a≤4611686018427387904):zfS a=(true,zQ a):=(z4O 1000).1 d 100 a h (by omega) hd hd hs
theorem zPD {τ:Type} [Inhabited τ] {l:List τ} {x:τ} (h:x∈l):∃ i,i<l.length∧l.getD i default=x:=by
 obtain ⟨i,hi,e⟩:=List.mem_iff_getElem.1 h;exact ⟨i,hi,by rw [List.getD_eq_getElem?_getD,List.getElem?_eq_getElem hi]; exact e⟩
theorem zHZ {vat:At→Bool} {a:yC} (h:zyz vat a=true):zeD a=true:=by
 simp only [zyz,qc] at h; exact h.1
theorem zwu {vat:At→Bool} {a:yC} (h:zyz vat a=true) {t:Term} (ht:t∈a):(1≤t.Cf∧t.Cf≤1152921504606846976)∧okF vat t.Fs=true:=by
 simp only [zyz,qc] at h;obtain ⟨i,hi,rfl⟩:=zPD ht;have:=zem.1 h.2 i (by omega) (by omega)
 simp only [zEJ,qc,qe] at this;exact ⟨this.1.1,this.2⟩
theorem zpd {vat:At→Bool} {fs:yD} (h:okF vat fs=true) {f:Fc} (hf:f∈fs):(1≤f.Exp∧(f.At.Kind=3∨f.At.Kind=4→f.Exp=1))∧vat f.At=true:=by
 obtain ⟨i,hi,rfl⟩:=zPD hf;have:=zem.1 h i (by omega) (by omega)
 simp only [zPO,qc,qe] at this;refine ⟨⟨this.1.1.1,fun hk=> ?_⟩,this.2⟩
 have h2:=this.1.1.2;rcases hk with hk | hk
 ·rw [hk] at h2; simpa using h2
 ·rw [hk] at h2; simpa using h2
theorem zbgw {b:Value} (h:bz b=true):b=⟨0,0,ByteArray.mk #[]⟩:=by
 unfold bz at h;rw [zXx] at h;simp only [qc,beq_iff_eq,qe,and_true] at h;obtain ⟨k,i,t⟩:=b;simp only at h;obtain ⟨rfl,rfl,rfl⟩:=h;rfl
theorem zwv {v:Value} (h:zvC v=true):v.Text.size≤255:=by
 simp only [zvC,Bool.or_eq_true,qc,beq_iff_eq,qe] at h;omega
theorem zTy {x:At} (h:plA x=true):x.Func=0∧x.Items=[]∧x.Op=0∧x.Bd=⟨0,0,ByteArray.mk #[]⟩:=by
 simp only [plA,qc,beq_iff_eq] at h;exact ⟨h.1.1.1,List.length_eq_zero_iff.1 h.1.1.2,h.1.2,zbgw h.2⟩
theorem zbgP {r:RowID} (h:rz r=true):r=⟨0,0⟩:=by
 simp only [rz,qc,beq_iff_eq,and_true] at h;obtain ⟨t,s⟩:=r;simp only at h;obtain ⟨rfl,rfl⟩:=h; rfl
inductive VA (V:yC→Bool):At→Prop
 | var (r:RowID) (h:zAK r=true):VA V ⟨0,r,[],0,[],0,⟨0,0,ByteArray.mk #[]⟩⟩
 | mon (a b:yC) (ha:V a=true) (hb:V b=true) (ha0:a≠[]) (hb0:b≠[]) (h:a≠b):VA V ⟨1,⟨0,0⟩,[a,b],0,[],0,⟨0,0,ByteArray.mk #[]⟩⟩
 | del (a:yC) (ha:V a=true) (ha0:a≠[]) (h:isC a=false) (h':isU a=false):VA V ⟨2,⟨0,0⟩,[a],0,[],0,⟨0,0,ByteArray.mk #[]⟩⟩
 | abs (a:yC) (ha:V a=true) (ha0:a≠[]) (h:zyE a=false):VA V ⟨3,⟨0,0⟩,[a],0,[],0,⟨0,0,ByteArray.mk #[]⟩⟩
 | tst (f:Int) (l:yE) (o:Int) (b:Value) (hl:l≠[]) (hi:∀ w∈l,V w.Ann=true∧w.Ann≠[]) (hs:zXU l=true) (hf:zBE f l o b=true):VA V ⟨4,⟨0,0⟩,[],f,l,o,b⟩
theorem zdv {V:yC→Bool} {x:At}:zd9 V x=true↔VA V x:=by
 constructor
 ·intro h;have hk:=zEO h;obtain ⟨k,r,l,f,its,o,b⟩:=x;simp only at hk;unfold zd9 at h;simp only [qc] at h;obtain ⟨h1,h2⟩:=h
  have ha:∀ a∈l,V a=true∧a≠[]:=fun a ha=>by
   have:=List.all_eq_true.1 h1 a ha;simp only [qc,Bool.not_eq_true',beq_eq_false_iff_ne] at this;exact ⟨this.1,fun e=>this.2 (by rw [e]; rfl)⟩
  by_cases h0:k=0
  ·subst h0;simp only [if_true,qc,beq_iff_eq] at h2;obtain ⟨e1,e2,e3,e4⟩:=zTy h2.1.1;simp only at e1 e2 e3 e4;subst e1 e2 e3 e4;obtain rfl:l=[]:=List.length_eq_zero_iff.1 h2.2;exact .var r h2.1.2
  simp only [h0,if_false,qc] at h2;obtain ⟨hr,h2⟩:=h2;have hr':=zbgP hr;subst hr';by_cases h0':k=1
  ·subst h0';simp only [if_true,qc] at h2;obtain ⟨e1,e2,e3,e4⟩:=zTy h2.1;simp only at e1 e2 e3 e4;subst e1 e2 e3 e4
   match l,h2.2,ha with
   | [a,b],h3,ha=>exact .mon a b (ha a (by simp)).1 (ha b (by simp)).1 (ha a (by simp)).2 (ha b (by simp)).2 (by simpa [z4U] using h3)
  simp only [h0',if_false] at h2;by_cases h2':k=2
  ·subst h2';simp only [if_true,qc] at h2;obtain ⟨e1,e2,e3,e4⟩:=zTy h2.1;simp only at e1 e2 e3 e4;subst e1 e2 e3 e4
   match l,h2.2,ha with
   | [a],h3,ha=>
    simp only [zGU,qc,Bool.not_eq_true'] at h3;exact .del a (ha a (by simp)).1 (ha a (by simp)).2 h3.1 h3.2
  simp only [h2',if_false] at h2;by_cases h3':k=3
  ·subst h3';simp only [if_true,qc] at h2;obtain ⟨e1,e2,e3,e4⟩:=zTy h2.1;simp only at e1 e2 e3 e4;subst e1 e2 e3 e4
   match l,h2.2,ha with
   | [a],h3,ha=>
    simp only [zGU,Bool.not_eq_true'] at h3;exact .abs a (ha a (by simp)).1 (ha a (by simp)).2 h3
  simp only [h3',if_false] at h2;have h4':k=4:=by omega
  subst h4';simp only [if_true,qc,beq_iff_eq,qe] at h2;obtain ⟨⟨⟨⟨h3,h4⟩,h5⟩,h6⟩,h7⟩:=h2;obtain rfl:l=[]:=List.length_eq_zero_iff.1 h3
  exact .tst f its o b (fun e=>by rw [e] at h4; simp at h4) (fun w hw=>by
   have:=List.all_eq_true.1 h5 w hw;simp only [qc,Bool.not_eq_true',beq_eq_false_iff_ne] at this;exact ⟨this.1,fun e=>this.2 (by rw [e]; rfl)⟩) h6 h7
 ·intro h
  have ne:∀ a:yC,a≠[]→(a.length==0)=false:=fun a ha=>by
   rw [beq_eq_false_iff_ne]; exact fun e=>ha (List.length_eq_zero_iff.1 e)
  cases h with
  | var r h=>simp [zd9,zqA,plA,bz,h]
  | mon a b ha hb ha0 hb0 h=>simp [zd9,zqA,plA,bz,rz,z4U,ha,hb,ha0,hb0,h]
  | del a ha ha0 h h'=>simp [zd9,zqA,plA,bz,rz,zGU,ha,ha0,h,h']
  | abs a ha ha0 h=>simp [zd9,zqA,plA,bz,rz,zGU,ha,ha0,h]
  | tst f l o b hl hi hs hf=>
   have h1:zDj V l=true:=List.all_eq_true.2 fun w hw=>by rw [(hi w hw).1,ne _ (hi w hw).2]; rfl
   have h2:0<l.length:=by
    cases l with
    | nil=>exact absurd rfl hl
    | cons x r=>simp
   simp [zd9,zqA,rz,h1,hs,hf,h2]
theorem zw0 {a:yC} (h:zeD a=true):a.length≤512∧zbs a≤8∧zN a≤4096∧∀ t∈a,t.Fs.length≤64∧∀ f∈t.Fs,f.Exp≤64∧f.At.Items.length≤1024:=by
 simp only [zeD,qc,List.all_eq_true,qe] at h;refine ⟨h.1.1.1,h.1.1.2,h.1.2,fun t ht=> ?_⟩
 have:=h.2 t ht;simp only [zCH,Bool.not_eq_true',Bool.or_eq_false_iff,decide_eq_false_iff_not,List.any_eq_false] at this;refine ⟨by omega,fun f hf=> ?_⟩
 have h2:=this.2 f hf;simp at h2;omega
theorem z2Y {a:yC} {t:Term} (h:t∈a):zdl t.Fs≤zbs a:=by
 induction a with
 | nil=>cases h
 | cons b r ih=>
  rw [zmT];rcases qd.1 h with rfl | h
  ·omega
  ·have:=ih h; omega
theorem zRk {l:yD} {f:Fc} (h:f∈l):zn5 f.At≤zdl l:=by
 induction l with
 | nil=>cases h
 | cons b r ih=>
  rw [zjj];rcases qd.1 h with rfl | h
  ·omega
  ·have:=ih h; omega
theorem zQg {l:yA} {a:yC} (h:a∈l):zbs a≤zmO l:=by
 induction l with
 | nil=>cases h
 | cons b r ih=>
  rw [zEw];rcases qd.1 h with rfl | h
  ·omega
  ·have:=ih h; omega
theorem z9L {l:yE} {w:Wd} (h:w∈l):zbs w.Ann≤zk0 l:=by
 induction l with
 | nil=>cases h
 | cons b r ih=>
  rw [zCx];rcases qd.1 h with rfl | h
  ·omega
  ·have:=ih h; omega
theorem ztt {f:Int} {l:yE} {o:Int} {b:Value} (h:zBE f l o b=true):(0≤f∧f≤3∧5≤o∧o≤10)∧zvC b=true∧∀ w∈l,zvC w.Value=true∧w.Value.Kind=b.Kind:=by
 simp only [zBE,qc,List.all_eq_true,qe] at h;obtain ⟨⟨⟨⟨⟨⟨h1,h2⟩,h3⟩,h4⟩,h5⟩,h6⟩,h7⟩:=h;refine ⟨⟨h1,h2,h3,h4⟩,h5,fun w hw=> ?_⟩
 have:=h7 w hw;simp only [zLH,qc,beq_iff_eq] at this;exact this.1
theorem z36:∀ (m:Nat) (a:yC),zbF m a=true→zp (zbs a+1) a
 | 0,a,h=>by cases h
 | m+1,a,h=>by
  have hw:=zw0 (zHZ h);refine ⟨by omega,fun t ht=> ?_⟩
  obtain ⟨_,hok⟩:=zwu h ht;obtain ⟨h1,h2⟩:=hw.2.2.2 t ht;refine ⟨by omega,fun f hf=> ?_⟩
  have hv:=zdv.1 (zpd hok hf).2;have hn:zn5 f.At≤zbs a:=Nat.le_trans (zRk hf) (z2Y ht);have h3:=(h2 f hf).2;generalize f.At=x at hv hn h3;rw [zEp] at hn;have ih:∀ b,zbF m b=true→zbs b+1≤zbs a→zp (zbs a) b:=fun b hb hl=>(z36 m b hb).mono hl
  cases hv with
  | var r h=>exact ⟨⟨by simp,by simp,by show (ByteArray.mk #[]).size≤_; decide⟩,fun a ha=>(by cases ha),fun w hw=>(by cases hw)⟩
  | mon b c hb hc _ _ _=>
   simp only at hn;refine ⟨⟨by simp,by simp,by show (ByteArray.mk #[]).size≤_; decide⟩,fun y hy=> ?_,fun w hw=>(by cases hw)⟩
   have:=zQg hy;simp only at this;simp only [qd,List.not_mem_nil,or_false] at hy;rcases hy with rfl | rfl
   ·exact ih _ hb (by simp at hn; omega)
   ·exact ih _ hc (by simp at hn; omega)
  | del b hb _ _ _=>
   refine ⟨⟨by simp,by simp,by show (ByteArray.mk #[]).size≤_; decide⟩,fun y hy=> ?_,fun w hw=>(by cases hw)⟩
   have:=zQg hy;simp only at this;simp only [qd,List.not_mem_nil,or_false] at hy;subst hy;exact ih _ hb (by simp at hn; omega)
  | abs b hb _ _=>
   refine ⟨⟨by simp,by simp,by show (ByteArray.mk #[]).size≤_; decide⟩,fun y hy=> ?_,fun w hw=>(by cases hw)⟩
   have:=zQg hy;simp only at this;simp only [qd,List.not_mem_nil,or_false] at hy;subst hy;exact ih _ hb (by simp at hn; omega)
  | tst fn l o b hl hi hs hf=>
   obtain ⟨_,hb,hit⟩:=ztt hf;refine ⟨⟨by simp,by simp only at h3 ⊢; omega,by have:=zwv hb; simp only; omega⟩,fun y hy=>(by cases hy),fun w hw=>⟨by have:=zwv (hit w hw).1; omega, ?_⟩⟩
   have:=z9L hw;simp only at this;exact ih _ (hi w hw).1 (by simp at hn; omega)
theorem ze8 {m:Nat} {a:yC} (h:zbF m a=true):zp 9 a∧zN a≤4096∧a.length≤512:=by
 cases m with
 | zero=>cases h
 | succ m=>
 have hw:=zw0 (zHZ h);exact ⟨(z36 _ a h).mono (by omega),hw.2.2.1,hw.1⟩
theorem z7e {d m m':Nat} {a:yC} (h:zp d a) (hd:d≤100) (h1:d≤m) (h2:d≤m') (hs:zN a≤4611686018427387904):zbF m a=zbF m' a:=by
 have e1:=(zOe 1000).1 d m a h (by omega) h1 hd hs
 have e2:=(zOe 1000).1 d m' a h (by omega) h2 hd hs
 rw [e1] at e2;exact (Prod.mk.injEq _ _ _ _ ▸ e2).2
theorem z9A {m:Nat} {a:yC} (h:zbF m a=true) (hm:9≤m):zQ a=true:=by
 obtain ⟨h1,h2,h3⟩:=ze8 h;rw [← h]; exact z7e h1 (by omega) (by omega) hm (by omega)
theorem z2t {m:Nat} {a:yC} (h:zQ a=true) (hm:9≤m):zbF m a=true:=by
 obtain ⟨h1,h2,h3⟩:=ze8 h;rw [← h]; exact z7e h1 (by omega) hm (by omega) (by omega)
theorem VA.imp {V V':yC→Bool} (hV:∀ a,V a=true→V' a=true) {x:At} (h:VA V x):VA V' x:=by
 cases h with
 | var r h=>exact .var r h
 | mon a b ha hb ha0 hb0 h=>exact .mon a b (hV a ha) (hV b hb) ha0 hb0 h
 | del a ha ha0 h h'=>exact .del a (hV a ha) ha0 h h'
 | abs a ha ha0 h=>exact .abs a (hV a ha) ha0 h
 | tst f l o b hl hi hs hf=>exact .tst f l o b hl (fun w hw=>⟨hV _ (hi w hw).1,(hi w hw).2⟩) hs hf
def zos (x:At):Bool:=zd9 zQ x
theorem zbdn {m:Nat} (hm:9≤m):zd9 (zbF m)=zos:=by
 funext x
 rw [Bool.eq_iff_iff];unfold zos;rw [zdv,zdv];exact ⟨VA.imp fun a h=>z9A h hm,VA.imp fun a h=>z2t h hm⟩
theorem z3b (a:yC):zQ a=zyz zos a:=by
 show zyz (zd9 (zbF 99)) a=_;rw [zbdn (by omega)]
theorem z1D {τ:Type} [Inhabited τ] {l:List τ} {i:Nat} (h:i<l.length):l.set i (l.getD i default)=l:=by
 rw [List.getD_eq_getElem?_getD,List.getElem?_eq_getElem h]; simp
section
variable (g:yC→Bool×yC) (gx:At→Bool×At)
theorem zbiF (t8:yC) (t9 t10:Int) (out:yC) (t:Term) (l:yD) (hl:l.length≤1000000) (hg:∀ f∈l,gx f.At=(true,f.At)) (n:Nat) (hn:l.length<n):
  zCs gx n t8 t9 t10 l.length 0 out t l=(true,(t8,t9,t10,out,t,l)):=by
 have:=zd7 (W:=zuB gx) (z:=default) l.length (fun i=>((),(),(),t8,t9,t10,(l.length:Int),(i:Int),())) (fun _=>(out,t,l,())) (fun _=>true) default (t8,t9,t10,out,t,l)
  (fun i hi H K D=>by
   show (zjO gx t8 t9 t10 l.length i out t l).ev H K D=_;unfold zjO;simp only [At.eta,Wy.ev_i,Wy.ev_k,Wy.ev_h,Wy.ev_bn,Wy.ev_d,tT,hi,hg _ (zu hi)];rw [zV (by omega)]
   have:(l.set i (⟨(l.getD i default).At,(l.getD i default).Exp⟩:Fc))=l:=z1D hi;rw [this])
  (fun H K D=>by
   show (zjO gx t8 t9 t10 l.length l.length out t l).ev H K D=_;unfold zjO;simp only [Wy.ev_i,Wy.ev_k,tT,Nat.lt_irrefl]) n hn
 rw [show zeV (fun _=>true) l.length 0=true from zem.2 fun _ _ _=>rfl] at this
 exact this
theorem zbiK (a:yC) (hl:a.length≤1000000) (hg:∀ t∈a,t.Fs.length≤1000000∧∀ f∈t.Fs,gx f.At=(true,f.At)) (n:Nat) (hn:a.length<n):
  zB5 gx n a a.length 0 []=(true,a):=by
 have hreach:zK=70368744177664:=rfl
 have:=zd7 (W:=zuh gx) (z:=default) a.length (fun i=>((),a,(a.length:Int),(i:Int),())) (fun i=>(a.take i,())) (fun _=>true) default a
  (fun i hi H K D=>by
   show (zjV gx a a.length i (a.take i)).ev H K D=_;unfold zjV zfb;obtain ⟨h1,h2⟩:=hg _ (zu hi);have hb:decide ((a.getD i default).Fs.length*128≤zK)=true:=by simp only [qe]; omega
   simp only [Wy.ev_i,Wy.ev_k,Wy.ev_h,Wy.ev_bn,Wy.ev_d,tT,hi,hb];rw [zbiF gx a a.length i (a.take i) _ _ h1 h2 _ (by omega)]
   have hb2:decide (((a.take i).length+1)*32≤zK)=true:=by simp only [qe,List.length_take]; omega
   simp only [cond_true,List.length_singleton,hb2];rw [zV (by omega),zkq hi])
  (fun H K D=>by
   show (zjV gx a a.length a.length (a.take a.length)).ev H K D=_;unfold zjV;simp only [Wy.ev_i,Wy.ev_k,tT,Nat.lt_irrefl,List.take_length]) n hn
 rw [show zeV (fun _=>true) a.length 0=true from zem.2 fun _ _ _=>rfl] at this
 exact this
end
section
variable (g:yC→Bool×yC)
theorem zbic (l:yA) (hl:l.length≤1000000) (hg:∀ a∈l,g a=(true,a)) (n:Nat) (hn:l.length<n) (x0 x1 x2 x3:Int) (x4:yE) (x5 x6 x7:Int) (x8:ByteArray) (t0 t1 t2 t3 t4 t5 t6:Int) (t7:ByteArray):
  zx2 g n l.length 0 x0 x1 x2 x3 x4 x5 x6 x7 x8 t0 t1 t2 t3 t4 t5 t6 t7 l=(true,(x0,x1,x2,x3,x4,x5,x6,x7,x8,t0,t1,t2,t3,t4,t5,t6,t7,l)):=by
 have:=zd7 (W:=zog g) (z:=default) l.length (fun i=>((),(),(l.length:Int),(i:Int),())) (fun _=>((x0,x1,x2,(),x3,x4,x5,x6,x7,x8,()),(t0,t1,t2,(),t3,(),t4,t5,t6,t7,()),l,())) (fun _=>true) default (x0,x1,x2,x3,x4,x5,x6,x7,x8,t0,t1,t2,t3,t4,t5,t6,t7,l)
  (fun i hi H K D=>by
   show (zgn g l.length i x0 x1 x2 x3 x4 x5 x6 x7 x8 t0 t1 t2 t3 t4 t5 t6 t7 l).ev H K D=_;unfold zgn;simp only [Wy.ev_i,Wy.ev_k,Wy.ev_h,Wy.ev_bn,Wy.ev_d,tT,hi,hg _ (zu hi)];rw [zV (by omega),z1D hi])
  (fun H K D=>by
   show (zgn g l.length l.length x0 x1 x2 x3 x4 x5 x6 x7 x8 t0 t1 t2 t3 t4 t5 t6 t7 l).ev H K D=_;unfold zgn;simp only [Wy.ev_i,Wy.ev_k,tT,Nat.lt_irrefl]) n hn
 rw [show zeV (fun _=>true) l.length 0=true from zem.2 fun _ _ _=>rfl] at this
 exact this
theorem zbit (l:yE) (hl:l.length≤1000000) (hg:∀ a∈l,g a.Ann=(true,a.Ann)) (n:Nat) (hn:l.length<n) (x0 x1 x2 x3 x4 x5 x6:Int) (x7:ByteArray) (t0 t1 t2 t3 t4 t5 t6:Int) (t7:ByteArray) (b2:yA):
  zxK g n l.length 0 x0 x1 x2 x3 x4 x5 x6 x7 t0 t1 t2 t3 t4 t5 t6 t7 b2 l=(true,(x0,x1,x2,x3,x4,x5,x6,x7,t0,t1,t2,t3,t4,t5,t6,t7,b2,l)):=by
 have:=zd7 (W:=zoz g) (z:=default) l.length (fun i=>((),(),(l.length:Int),(i:Int),())) (fun _=>((x0,x1,x2,(),x3,(),x4,x5,x6,x7,()),(t0,t1,t2,(),t3,(),t4,t5,t6,t7,()),b2,l,())) (fun _=>true) default (x0,x1,x2,x3,x4,x5,x6,x7,t0,t1,t2,t3,t4,t5,t6,t7,b2,l)
  (fun i hi H K D=>by
   show (zgt g l.length i x0 x1 x2 x3 x4 x5 x6 x7 t0 t1 t2 t3 t4 t5 t6 t7 b2 l).ev H K D=_;unfold zgt;simp only [Wy.ev_i,Wy.ev_k,Wy.ev_h,Wy.ev_bn,Wy.ev_d,tT,hi,hg _ (zu hi)];have:l.set i (⟨(l.getD i default).Value,(l.getD i default).Ann⟩:Wd)=l:=z1D hi;rw [zV (by omega),this])
  (fun H K D=>by
   show (zgt g l.length l.length x0 x1 x2 x3 x4 x5 x6 x7 t0 t1 t2 t3 t4 t5 t6 t7 b2 l).ev H K D=_;unfold zgt;simp only [Wy.ev_i,Wy.ev_k,tT,Nat.lt_irrefl]) n hn
 rw [show zeV (fun _=>true) l.length 0=true from zem.2 fun _ _ _=>rfl] at this
 exact this
theorem z4W (x:At) (h1:x.Ag.length≤1000000) (h2:x.Items.length≤1000000) (hg:∀ a∈x.Ag,g a=(true,a)) (hgi:∀ w∈x.Items,g w.Ann=(true,w.Ann)):zi1 g x=(true,x):=by
 have hreach:zK=70368744177664:=rfl;unfold zi1 zyU zdR zex
 have e1:∀ k:Nat,k≤1000→decide (x.Ag.length*k≤zK)=true:=fun k hk=>by
  have:=Nat.mul_le_mul h1 hk;simp only [qe]; omega
 have e2:∀ k:Nat,k≤1000→decide (x.Items.length*k≤zK)=true:=fun k hk=>by
  have:=Nat.mul_le_mul h2 hk;simp only [qe]; omega
 simp only [Wy.fin_bn,Wy.fin_k,e1 _ (by omega:24≤1000),e2 _ (by omega:56≤1000),Int.ofNat_eq_natCast,cond_true]
 rw [zbic g _ h1 hg _ (by omega)]
 simp only [cond_true,e2 _ (by omega:56≤1000)]
 rw [zbit g _ h2 hgi _ (by omega)]
 simp only [cond_true];cases x; rfl
theorem zbav (gx:At→Bool×At) (a:yC) (hl:a.length≤1000000) (hg:∀ t∈a,t.Fs.length≤1000000∧∀ f∈t.Fs,gx f.At=(true,f.At)):zmh gx a=(true,a):=by
 unfold zmh zC1;have:=zbiK gx a hl hg (a.length+(Int.ofNat a.length).toNat +Int.toNat (0:Int)+(0:Nat)+(1:Nat)) (by omega)
 rw [show Int.ofNat a.length=(a.length:Int) from rfl] at *
 rw [Wy.fin_bn,this]; rfl
end
theorem z3Y:∀ n,
  (∀ d a,zp d a→2*d≤n→zmg n a=(true,a))∧
  (∀ d x,zcY (zp d) x→2*d+1≤n→zl2 n x=(true,x))
 | 0=>by
  refine ⟨fun d a h hd=> ?_,fun d x h hd=>by omega⟩
  have:d=0:=by omega
  subst this; exact h.elim
 | n+1=>by
  obtain ⟨h1,h2⟩:=z3Y n;refine ⟨fun d a h hd=> ?_,fun d x h hd=> ?_⟩
  ·cases d with
   | zero=>exact h.elim
   | succ d=>
    rw [zP5];exact zbav _ a h.1 fun t ht=>⟨(h.2 t ht).1,fun f hf=>h2 d _ ((h.2 t ht).2 f hf) (by omega)⟩
  ·rw [zIJ];exact z4W _ x h.1.1 h.1.2.1 (fun a ha=>h1 d a (h.2.1 a ha) (by omega)) fun w hw=>h1 d _ (h.2.2 w hw).2 (by omega)
theorem zHb {d:Nat} {a:yC} (h:zp d a) (hd:d≤100):zgM a=(true,a):=(z3Y 1000).1 d a h (by omega)
def znm (a:yC):yC×Int:=bif zeD a then (a,0) else ([],6)
theorem zAN {d:Nat} {a:yC} (h:zp d a) (hd:d≤100) (hs:zN a≤4611686018427387904):zeu a=(true,znm a):=by
 unfold zeu zD7 znm;simp only [Wy.fin_bn,Wy.fin_i,Wy.fin_k,z6O h hd hs,zHb h hd,cond_true];cases zeD a <;>rfl
theorem zRn {d:Nat} {a:yC} (h:zp d a) (hd:d≤100) (hs:zN a≤4611686018427387904):znb a=(true,znm a):=by
 unfold znb z01 znm;simp only [Wy.fin_bn,Wy.fin_i,Wy.fin_k,zbaZ h hd hs,cond_true];cases zeD a <;>rfl
def zcy (x:At):yC:=[⟨1,[⟨x,1⟩]⟩]
theorem zIl (x:At):(zfr x).2=zcy x:=by
 unfold zfr zFq;rw [At.eta]; rfl
theorem zSb (x:At):(zm8 x).2=zcy x:=by
 unfold zm8 zWP;rw [At.eta]; rfl
theorem zOu {d:Nat} {x:At} (h:zcY (zp d) x):zp (d+1) (zcy x):=by
 refine ⟨by simp [zcy],fun t ht=> ?_⟩
 simp only [zcy,qh] at ht;subst ht;refine ⟨by simp,fun f hf=> ?_⟩
 simp only [qh] at hf;subst hf; exact h
theorem z1w (x:At):zN (zcy x)=2+zfd x:=by
 rw [zcy,zet,zty,zc9,ziF];simp only [List.length_singleton]; omega
theorem z8u (x:At):(zgE x).2=zcy x:=by
 unfold zgE zAr;rw [At.eta]; rfl
theorem zbeI {x y:At} (h:zcy x=zcy y):x=y:=by
 simp only [zcy,qj,and_true] at h;have:=congrArg TO.Fs h;simp only [qj,and_true] at this;exact congrArg FO.At this
theorem zbaJ {d:Nat} {x:At} (hx:zcY (zp d) x) (hd:d≤99) (y:At):zmt x y=(true,decide (x=y)):=by
 unfold zmt zDa;rw [At.eta,At.eta,z8u,z8u,Wy.fin_bn,zrG (zOu hx) (by omega),cond_true,Wy.fin_k]
 have:decide (zcy x=zcy y)=decide (x=y):=by
  rw [decide_eq_decide];exact ⟨zbeI,fun h=>by rw [h]⟩
 rw [this]
theorem zbiq {d:Nat} (s:yD) (f:Fc) (hs:s.length≤1000000) (hf:zcY (zp d) f.At) (hd:d≤99):zcw s f=(true,s.any fun g=>decide (f.Exp≤g.Exp)&&decide (f.At=g.At)):=by
 unfold zcw zij
 have hw:zdz=zSx (fun (g:Fc×Unit) x=>zeB x g.1):=by
  funext x y
  unfold zdz zjy zSx zY1;rw [Fc.eta2,Fc.eta2]
 have:zcR s f=IG (fun (g:Fc×Unit) x=>zeB x g.1) (s.length+f.At.Ag.length+f.At.Items.length+(Int.ofNat s.length).toNat +Int.toNat (0:Int)+(1000:Nat)) (f,()) s:=by
  unfold zcR zjX zjq;rw [hw,Fc.eta2]; rfl
 rw [Fc.eta2]
 exact zkZ (this.trans (zJR _ _ _ _ _ (by omega) (fun x _=>by
  show zeB x f=_;unfold zeB zyb;rw [At.eta,At.eta];simp only [Wy.fin_i,Wy.fin_bn,Wy.fin_k,zbaJ hf hd,cond_true];cases decide (f.Exp≤x.Exp) <;>rfl) (by omega)))
theorem z4C {d:Nat} {s:Term} (hs:zdG (zp d) s.Fs) (hd:d≤99) {t:Term} (ht:t.Fs.length≤1000000):zf0 s t=(true,dvF s.Fs t.Fs):=by
 unfold zf0 zEc
 have h3:zcB s.Fs t=(true,s.Fs.any fun f=> !t.Fs.any fun g=>decide (f.Exp≤g.Exp)&&decide (f.At=g.At)):=by
  unfold zcB ziT
  have hw:zdH=zSx (fun (g:Term×Unit) x=>zfI x g.1):=by
   funext x y
   unfold zdH zjD zSx zY1;rw [Fc.eta2]
  have:zc1 s.Fs t=IG (fun (g:Term×Unit) x=>zfI x g.1) (s.Fs.length+t.Fs.length+(Int.ofNat s.Fs.length).toNat +Int.toNat (0:Int)+(1000:Nat)) (t,()) s.Fs:=by
   unfold zc1 zj8 zjT;rw [hw]; rfl
  exact zkZ (this.trans (zJR _ _ _ _ _ (by have:=hs.1; omega) (fun x hx=>by
   show zfI x t=_;unfold zfI zBc;rw [Fc.eta2,Wy.fin_bn,zbiq _ _ ht (hs.2 x hx) hd,cond_true,Wy.fin_k]) (by omega)))
 rw [Wy.fin_bn,h3,cond_true,Wy.fin_k];unfold dvF;simp [List.all_eq_not_any_not]
def txV (v:Value):List UInt8:=if v.Kind=0 then ziE v.Int else if v.Kind=1 then 39::(v.Text.data.toList.flatMap esc++[39]) else if v.Int=1 then [84,82,85,69] else [70,65,76,83,69]
def txR (r:RowID):List UInt8:=116::(ziE r.Table++46::ziE r.Seq)
def fnT (f:Int):List UInt8:=if f=0 then [67,79,85,78,84] else if f=1 then [83,85,77] else if f=2 then [77,73,78] else [77,65,88]
def opT (o:Int):List UInt8:=if o=5 then [61] else if o=6 then [60,62] else if o=7 then [60] else if o=8 then [60,61] else if o=9 then [62] else [62,61]
def zT4 (ts:List (List UInt8)):List UInt8:=if ts=[] then [48] else zeI ts [32,43,32]
def zYG (c:Int) (fs:List (List UInt8)):List UInt8:=if fs=[] then ziE c else if c=1 then zeI fs [42] else ziE c++42::zeI fs [42]
def zOP (x:List UInt8) (e:Int):List UInt8:=if e=1 then x else x++94::ziE e
def zdp (k:Int) (r:RowID) (xs:List (List UInt8)) (f:Int) (is:List (List UInt8)) (o:Int) (b:Value):List UInt8:=
 if k=0 then txR r
 else if k=1 then [109,111,110,117,115,91]++(xs.getD 0 []++([44,32]++(xs.getD 1 []++[93])))
 else if k=2 then [100,101,108,116,97,91]++(xs.getD 0 []++[93])
 else if k=3 then [97,98,115,101,110,116,91]++(xs.getD 0 []++[93])
 else [116,101,115,116,91]++(fnT f++([123]++(zeI is [59,32]++([125,32]++(opT o++([32]++(txV b++[93])))))))
mutual
def txA:At→List UInt8
 | ⟨k,r,a,f,i,o,b⟩=>zdp k r (z42 a) f (z5a i) o b
def zMl:yD→List (List UInt8)
 | []=>[]
 | ⟨x,e⟩::l=>zOP (txA x) e::zMl l
def zUo:yC→List (List UInt8)
 | []=>[]
 | ⟨c,fs⟩::l=>zYG c (zMl fs)::zUo l
def z42:yA→List (List UInt8)
 | []=>[]
 | a::l=>zT4 (zUo a)::z42 l
def z5a:yE→List (List UInt8)
 | []=>[]
 | ⟨v,a⟩::l=>(txV v++([58,32]++zT4 (zUo a)))::z5a l
end
def txF (f:Fc):List UInt8:=zOP (txA f.At) f.Exp
def txT (t:Term):List UInt8:=zYG t.Cf (zMl t.Fs)
def txN (a:yC):List UInt8:=zT4 (zUo a)
def txI (w:Wd):List UInt8:=txV w.Value++([58,32]++txN w.Ann)
theorem zzH:∀ l,zMl l=l.map txF
 | []=>by rw [zMl]; rfl
 | x::r=>by rw [zMl,zzH r]; rfl
theorem zTY:∀ l,zUo l=l.map txT
 | []=>by rw [zUo]; rfl
 | x::r=>by rw [zUo,zTY r]; rfl
theorem zmI:∀ l,z42 l=l.map txN
 | []=>by rw [z42]; rfl
 | x::r=>by rw [z42,zmI r]; rfl
theorem zLy:∀ l,z5a l=l.map txI
 | []=>by rw [z5a]; rfl
 | x::r=>by rw [z5a,zLy r]; rfl
theorem zbhn (x:At):txA x=zdp x.Kind x.Row (z42 x.Ag) x.Func (z5a x.Items) x.Op x.Bd:=by cases x; rw [txA]
def txL (l:yD):List UInt8:=zeI (zMl l) [42]
theorem zRr {v:Value} (h:zvC v=true):(txV v).length≤512:=by
 have ht:=zwv h;unfold txV;have h1:=zpW v.Int;have h2:=z6j v.Text.data.toList;have h3:v.Text.data.toList.length=v.Text.size:=by rw [Array.length_toList]; rfl
 split
 ·omega
 ·split
  ·simp only [qf,qg,List.length_nil]; omega
  ·split <;>simp
theorem zbfW (r:RowID):(txR r).length≤44:=by
 have h1:=zpW r.Table;have h2:=zpW r.Seq;simp only [txR,qf,qg]; omega
theorem zbbE (f:Int):(fnT f).length≤5:=by unfold fnT; (repeat' split) <;>simp
theorem zbbe (f:Int):(opT f).length≤2:=by unfold opT; (repeat' split) <;>simp
theorem zTP {α:Type} (t:α→List UInt8) (m:α→Nat) (s:List UInt8):∀ l:List α,(∀ x∈l,(t x).length+s.length≤m x)→(zeI (l.map t) s).length≤(l.map m).sum
 | [],_=>by simp [zeI]
 | [x],h=>by
  have:=h x (by simp)
  simp only [List.map,zeI,List.sum_cons,List.sum_nil]; omega
 | x::y::r,h=>by
  have h1:=h x (by simp)
  have h2:=zTP t m s (y::r) fun z hz=>h z (List.mem_cons_of_mem _ hz)
  simp only [List.map,zeI,qg,List.sum_cons] at h2 ⊢;omega
theorem z1n:∀ l:yD,(l.map fun f=>1000+1000*zfd f.At).sum=1000*(l.length+zbN l)
 | []=>by rw [ziF]; rfl
 | f::r=>by rw [List.map_cons,List.sum_cons,z1n r,zc9,qf]; omega
theorem z6Z:∀ l:yC,(l.map fun t=>1000+1000*(t.Fs.length+zbN t.Fs)).sum=1000*zN l
 | []=>by rw [zty]; rfl
 | f::r=>by rw [List.map_cons,List.sum_cons,z6Z r,zet]; omega
theorem z6B:∀ l:yE,(l.map fun t=>1000+1000*zN t.Ann).sum=1000*zdh l
 | []=>by rw [zfG]; rfl
 | f::r=>by rw [List.map_cons,List.sum_cons,z6B r,zic]; omega
theorem zbf3 {x:At} {e:Int} (h:(txA x).length≤700+1000*zfd x):(zOP (txA x) e).length+1≤1000+1000*zfd x:=by
 have:=zpW e;unfold zOP;split
 ·omega
 ·simp only [qg,qf]; omega
theorem z8s {l:yD} (h:∀ f∈l,(txA f.At).length≤700+1000*zfd f.At):(txL l).length≤1000*(l.length+zbN l):=by
 unfold txL;rw [zzH, ← z1n];exact zTP txF (fun f=>1000+1000*zfd f.At) [42] l fun f hf=>zbf3 (h f hf)
theorem zZm:∀ (m:Nat),(∀ a,zbF m a=true→(txN a).length≤1+1000*zN a)∧(∀ x,zd9 (zbF m) x=true→(txA x).length≤700+1000*zfd x)
 | m=>by
  have hA:∀ (V:yC→Bool),(∀ a,V a=true→(txN a).length≤1+1000*zN a)→∀ x,zd9 V x=true→(txA x).length≤700+1000*zfd x:=by
   intro V hV x hx;rw [zhd];cases zdv.1 hx with
   | var r h=>
    rw [txA]; have:=zbfW r;simp only [zdp,if_true]; omega
   | mon a b ha hb _ _ _=>
    have h1:=hV a ha; have h2:=hV b hb;rw [txA,zmI];simp only [zdp,zeY,zgF,zfG,List.map,List.getD_cons_zero,List.getD_cons_succ,qg,qf,List.length_nil];simp only [show ¬ (1:Int)=0 by decide,if_false,if_true,qg,qf,List.length_nil]
    omega
   | del a ha _ _ _=>
    have h1:=hV a ha;rw [txA,zmI];simp only [zdp,zeY,zgF,zfG,List.map,List.getD_cons_zero];simp only [show ¬ (2:Int)=0 by decide,show ¬ (2:Int)=1 by decide,if_false,if_true,qg,qf,List.length_nil]
    omega
   | abs a ha _ _=>
    have h1:=hV a ha;rw [txA,zmI];simp only [zdp,zeY,zgF,zfG,List.map,List.getD_cons_zero];simp only [show ¬ (3:Int)=0 by decide,show ¬ (3:Int)=1 by decide,show ¬ (3:Int)=2 by decide,if_false,if_true,qg,qf,List.length_nil]
    omega
   | tst f l o b hl hi hs hf=>
    obtain ⟨_,hb,hit⟩:=ztt hf;have h1:=zbbE f; have h2:=zbbe o; have h3:=zRr hb
    have h4:(zeI (l.map txI) [59,32]).length≤1000*zdh l:=by
     rw [← z6B];refine zTP txI (fun w=>1000+1000*zN w.Ann) [59,32] l fun w hw=> ?_
     have h5:=hV _ (hi w hw).1; have h6:=zRr (hit w hw).1;simp only [txI,qg,qf,List.length_nil]; omega
    rw [txA,zLy];simp only [zdp,zgF];simp only [show ¬ (4:Int)=0 by decide,show ¬ (4:Int)=1 by decide,show ¬ (4:Int)=2 by decide,show ¬ (4:Int)=3 by decide,if_false,qg,qf,List.length_nil]
    omega
  have hN:∀ a,zbF m a=true→(txN a).length≤1+1000*zN a:=by
   induction m with
   | zero=>intro a h; cases h
   | succ m ih=>
    intro a h;unfold txN zT4;split
    ·simp
    ·rw [zTY, ← z6Z];refine Nat.le_trans (zTP txT (fun t=>1000+1000*(t.Fs.length+zbN t.Fs)) [32,43,32] a fun t ht=> ?_) (Nat.le_add_left _ _)
     have hok:=(zwu h ht).2;have h5:=z8s (l:=t.Fs) fun f hf=>hA _ ih _ (zpd hok hf).2
     have h6:=zpW t.Cf;have e:(zeI (zMl t.Fs) [42]).length=(txL t.Fs).length:=rfl;unfold txT zYG;simp only [qf,List.length_nil];split
     ·omega
     ·split
      ·omega
      ·simp only [qg,qf]; omega
  exact ⟨hN,hA _ hN⟩
theorem zmG {n:Int} (h:wf3 n): -9223372036854775808≤n∧n≤9223372036854775807:=by
 have h:(Lit.int .i64 n).wf=true:=h;have:IntKind.i64.min≤n∧n≤IntKind.i64.max:=by simpa [Lit.wf] using h
 exact ⟨this.1,this.2⟩
def rng (n:Int):Prop:= -9223372036854775808≤n∧n≤9223372036854775807
instance (n:Int):Decidable (rng n):=by unfold rng; infer_instance
theorem z12 {n:Int} (h:rng n):strconv_Itoa n=(true,bs (ziE n)):=by
 unfold strconv_Itoa zTq zOA;rw [decide_eq_true h.1,decide_eq_true h.2]; rfl
theorem zbbv {n:Int} (h:rng n):zjb n 10=(true,bs (ziE n)):=by
 unfold zjb zxr zOA;rw [decide_eq_true h.1,decide_eq_true h.2]; rfl
theorem okS (n m:Nat) (h:n+m≤9223372036854775807):decide (n+m≤9223372036854775807)=true:=decide_eq_true h
theorem zbeN {r:RowID} (h:zAK r=true) (h1:rng r.Table) (h2:rng r.Seq):zxH r=(true,bs (txR r)):=by
 unfold zxH zOD txR;have l1:=zpW r.Table;have l2:=zpW r.Seq;rw [show ByteArray.mk #[(116:UInt8)]=bs [116] from rfl,show ByteArray.mk #[(46:UInt8)]=bs [46] from rfl]
 simp only [Wy.fin_bn,Wy.fin_i,Wy.fin_k,zEM,h,z12 h1,z12 h2,cond_true,cond_false,Bool.not_true,zEk,zvA,qg,qf,List.length_nil];rw [okS _ _ (by omega),okS _ _ (by omega),okS _ _ (by omega)]
 simp
theorem z95 {v:Value} (h:zvC v=true) (hr:rng v.Int):zvq v=(true,bs (txV v)):=by
 unfold zvq zRg txV strings_ReplaceAll;have ht:=zwv h;rw [show ByteArray.mk #[(39:UInt8)]=bs [39] from rfl,show ByteArray.mk #[(39:UInt8),(39:UInt8)]=bs [39,39] from rfl]
 simp only [Wy.fin_bn,Wy.fin_i,Wy.fin_k,zGl,h,zbbv hr,z5O _ ht,cond_true,cond_false,Bool.not_true,zEk,zvA,qg,qf,List.length_nil];have h2:=z6j v.Text.data.toList;have h3:v.Text.data.toList.length=v.Text.size:=by rw [Array.length_toList]; rfl
 rw [okS _ _ (by omega),okS _ _ (by omega)]
 by_cases k0:v.Kind=0
 ·simp [k0]
 by_cases k1:v.Kind=1
 ·simp [k1]
 simp only [zgv,k0,k1,decide_false,cond_false,if_false];by_cases i1:v.Int=1
 ·simp only [i1,decide_true,cond_true,if_true]; rfl
 ·simp only [i1,decide_false,cond_false,if_false]; rfl
theorem zbgq {f:Int} (h0:0≤f) (h3:f≤3):(decide ((0:Int)≤f)&&decide (f<Int.ofNat zb8.snd.length))=true∧zb8.snd.getD f.toNat default=bs (fnT f):=by
 have hc:f=0∨f=1∨f=2∨f=3:=by omega
 rcases hc with rfl | rfl | rfl | rfl <;>exact ⟨rfl,rfl⟩
theorem zbfU {o:Int} (h0:5≤o) (h3:o≤10):(decide ((0:Int)≤IntKind.i64.wrap (o - 5))&&decide (IntKind.i64.wrap (o - 5)<Int.ofNat zdJ.snd.length))=true∧zdJ.snd.getD (IntKind.i64.wrap (o - 5)).toNat default=bs (opT o):=by
 have hc:o=5∨o=6∨o=7∨o=8∨o=9∨o=10:=by omega
 rcases hc with rfl | rfl | rfl | rfl | rfl | rfl <;>exact ⟨rfl,rfl⟩
theorem z1r {m:Nat} {x:At} (h:zd9 (zbF m) x=true) (hi:x.Items.length≤1024):zfd x≤4195328:=by
 rw [zhd];cases zdv.1 h with
 | var r h=>rw [zgF,zfG]; omega
 | mon a b ha hb _ _ _=>
  have h1:=(ze8 ha).2.1; have h2:=(ze8 hb).2.1;simp only [zeY,zgF,zfG]; omega
 | del a ha _ _ _=>
  have h1:=(ze8 ha).2.1;simp only [zeY,zgF,zfG]; omega
 | abs a ha _ _=>
  have h1:=(ze8 ha).2.1;simp only [zeY,zgF,zfG]; omega
 | tst f l o b hl hv hs hf=>
  have h1:∀ l:yE,(∀ w∈l,zN w.Ann≤4096)→zdh l≤l.length*4097:=fun l=>by
   induction l with
   | nil=>intro _; rw [zfG]; omega
   | cons w r ih=>
    intro h;have:=h w (by simp)
    have:=ih fun w hw=>h w (by simp [hw])
    rw [zic,qf,Nat.add_mul]; omega
  have:=h1 l fun w hw=>(ze8 (hv w hw).1).2.1
  have:=Nat.mul_le_mul hi (Nat.le_refl 4097);simp only [zgF] at this ⊢; omega
section
variable (gA:At→Bool×ByteArray) (gF:yD→Bool×ByteArray) (gT:yC→Bool×ByteArray)
theorem zbhG (l:yD) (hl:l.length≤1000) (hg:∀ f∈l,gA f.At=(true,bs (txA f.At))∧(txA f.At).length≤4200000000∧rng f.Exp):zgs gA l=(true,bs (txL l)):=by
 have hreach:zK=70368744177664:=rfl;unfold zgs zvG
 have:=zd7 (W:=zlY gA) (z:=default) l.length (fun i=>((),l,(l.length:Int),(i:Int),())) (fun i=>((l.take i).map fun f=>bs (txF f),())) (fun _=>true) default (l.map fun f=>bs (txF f))
  (fun i hi H K D=>by
   show (zfj gA l l.length i ((l.take i).map fun f=>bs (txF f))).ev H K D=_
   unfold zfj;obtain ⟨h1,h2,h3⟩:=hg _ (zu hi);have l1:=zpW (l.getD i default).Exp;rw [show ByteArray.mk #[(94:UInt8)]=bs [94] from rfl]
   simp only [At.eta,Wy.ev_i,Wy.ev_k,Wy.ev_h,Wy.ev_bn,Wy.ev_d,tT,hi,h1,z12 h3,zEk,zvA,qg,qf,List.length_nil];rw [okS _ _ (by omega),okS _ _ (by omega),zV (by omega),zkq hi,List.map_append]
   have hb:decide ((((l.take i).map fun f=>bs (txF f)).length+1)*16≤zK)=true:=by simp only [qe,List.length_map,List.length_take]; omega
   generalize ((l.take i).map fun f=>bs (txF f))=out at hb ⊢
   have hb':decide ((out.length+(0+1))*16≤zK)=true:=hb;simp only [hb,hb',cond_true,List.map_cons,List.map_nil,txF,zOP,zvI];by_cases he:(l.getD i default).Exp=1
   ·simp only [he,decide_true,Bool.not_true,cond_false,if_true]
   ·simp only [he,decide_false,Bool.not_false,cond_true,if_false,List.singleton_append])
  (fun H K D=>by
   show (zfj gA l l.length l.length ((l.take l.length).map fun f=>bs (txF f))).ev H K D=_
   unfold zfj;simp only [Wy.ev_i,Wy.ev_k,tT,Nat.lt_irrefl,List.take_length]) (l.length+(Int.ofNat l.length).toNat +Int.toNat (0:Int)+(0:Nat)+(1:Nat)) (by omega)
 rw [show zeV (fun _=>true) l.length 0=true from zem.2 fun _ _ _=>rfl] at this
 have e:zuK gA (l.length+(Int.ofNat l.length).toNat +Int.toNat (0:Int)+(0:Nat)+(1:Nat)) l (Int.ofNat l.length) (0:Int) []=(true,(l.map txF).map bs):=by rw [List.map_map]; exact this
 have hlen:(zeI (l.map txF) [42]).length≤140737488355328:=by
  refine Nat.le_trans (zXl (B:=4200001000) (l.map txF) [42] fun x hx=> ?_) (by
   rw [List.length_map]; have:=Nat.mul_le_mul hl (Nat.le_refl 4200001000); omega)
  obtain ⟨f,hf,rfl⟩:=List.mem_map.1 hx;have:=(hg f hf).2.1;have:=zpW f.Exp;unfold txF zOP;split
  ·simp only [qf,List.length_nil]; omega
  ·simp only [qg,qf,List.length_nil]; omega
 rw [Wy.fin_bn,e,show ByteArray.mk #[(42:UInt8)]=bs [42] from rfl]
 unfold strings_Join;simp only [cond_true,Wy.fin_bn,Wy.fin_k,z1E _ _ (by rw [List.length_map]; omega) hlen]
 unfold txL;rw [zzH]
theorem zbhq (a:yC) (hl:a.length≤1000) (hlen:(txN a).length≤140737488355328) (hg:∀ t∈a,gF t.Fs=(true,bs (txL t.Fs))∧(txL t.Fs).length≤4200000000∧rng t.Cf):zoP gF a=(true,bs (txN a)):=by
 have hreach:zK=70368744177664:=rfl;unfold zoP zFF;by_cases h0:a=[]
 ·subst h0;have e:txN []=[48]:=by unfold txN; rw [zUo]; rfl
  rw [e]; rfl
 have hne:(Int.ofNat a.length==(0:Int))=false:=by
  rw [beq_eq_false_iff_ne]; intro e;have:(a.length:Int)=0:=e;exact h0 (List.length_eq_zero_iff.1 (by omega))
 have:=zd7 (W:=zwZ gF) (z:=default) a.length (fun i=>((),a,(a.length:Int),(i:Int),())) (fun i=>((a.take i).map fun f=>bs (txT f),())) (fun _=>true) default (a.map fun f=>bs (txT f))
  (fun i hi H K D=>by
   show (zlt gF a a.length i ((a.take i).map fun f=>bs (txT f))).ev H K D=_
   unfold zlt;obtain ⟨h1,h2,h3⟩:=hg _ (zu hi);have l1:=zpW (a.getD i default).Cf;rw [show ByteArray.mk #[(42:UInt8)]=bs [42] from rfl]
   have hL:decide ((i:Int)<(a.length:Int))=true:=by simp [hi]
   have hL':decide ((i:Int)<Int.ofNat a.length)=true:=hL;simp only [Wy.ev_i,Wy.ev_k,Wy.ev_h,Wy.ev_bn,Wy.ev_d,hL,hL',zfe,Bool.and_self,cond_true,Int.toNat_natCast,h1,zbbv h3,zEk,zvA,qg,qf,List.length_nil,show (Int.ofNat (a.getD i default).Fs.length==(0:Int))=((a.getD i default).Fs.length==0) from zwR _ 0]
   rw [okS _ _ (by omega),okS _ _ (by omega),zV (by omega),zkq hi,List.map_append]
   have hb:decide ((((a.take i).map fun f=>bs (txT f)).length+1)*16≤zK)=true:=by simp only [qe,List.length_map,List.length_take]; omega
   generalize ((a.take i).map fun f=>bs (txT f))=out at hb ⊢
   have hb':decide ((out.length+(0+1))*16≤zK)=true:=hb;simp only [hb,hb',cond_true,List.map_cons,List.map_nil,txT,zYG,zgv]
   have e0:(zMl (a.getD i default).Fs=[])↔(a.getD i default).Fs.length=0:=by
    rw [zzH,List.map_eq_nil_iff,List.length_eq_zero_iff]
   by_cases hf:(a.getD i default).Fs.length=0
   ·rw [if_pos (e0.2 hf),hf]; rfl
   ·rw [if_neg (fun e=>hf (e0.1 e)),z1x,decide_eq_false hf]
    by_cases he:(a.getD i default).Cf=1
    ·simp only [he,decide_true,cond_true,cond_false,if_true,txL]
    ·simp only [he,decide_false,cond_false,if_false,txL,List.append_assoc,List.singleton_append])
  (fun H K D=>by
   show (zlt gF a a.length a.length ((a.take a.length).map fun f=>bs (txT f))).ev H K D=_
   unfold zlt;simp only [Wy.ev_i,Wy.ev_k,tT,Nat.lt_irrefl,List.take_length]) (a.length+(Int.ofNat a.length).toNat +Int.toNat (0:Int)+(0:Nat)+(1:Nat)) (by omega)
 rw [show zeV (fun _=>true) a.length 0=true from zem.2 fun _ _ _=>rfl] at this
 have e:zEh gF (a.length+(Int.ofNat a.length).toNat +Int.toNat (0:Int)+(0:Nat)+(1:Nat)) a (Int.ofNat a.length) (0:Int) []=(true,(a.map txT).map bs):=by rw [List.map_map]; exact this
 have ex:txN a=zeI (a.map txT) [32,43,32]:=by
  unfold txN zT4;rw [zTY,if_neg (by simpa using h0)]
 rw [ex] at hlen ⊢;rw [Wy.fin_i,hne,cond_false,Wy.fin_bn,e,show ByteArray.mk #[(32:UInt8),(43:UInt8),(32:UInt8)]=bs [32,43,32] from rfl]
 unfold strings_Join;simp only [cond_true,Wy.fin_bn,Wy.fin_k,z1E _ _ (by rw [List.length_map]; omega) hlen]
theorem zbhC {V:yC→Bool} (x:At) (hx:zd9 V x=true) (hw:zgr x) (hi:x.Items.length≤1024) (hg:∀ a,(a∈x.Ag∨∃ w∈x.Items,a=w.Ann)→gT a=(true,bs (txN a))∧(txN a).length≤4200000000):zi4 gT x=(true,bs (txA x)):=by
 have hreach:zK=70368744177664:=rfl;have W:=zpC hw;unfold zi4 zy7;rw [zbhn];cases zdv.1 hx with
 | var r h=>
  have hr:=W.2.2.2.2.1;simp only [Wy.fin_bn,Wy.fin_i,Wy.fin_k,zbeN h (zmG hr.1) (zmG hr.2)];simp [zdp]
 | mon a b ha hb _ _ _=>
  obtain ⟨g1,l1⟩:=hg a (.inl (by simp))
  obtain ⟨g2,l2⟩:=hg b (.inl (by simp))
  rw [zmI];simp only [List.map,zdp,List.getD_cons_zero,List.getD_cons_succ,show ¬ (1:Int)=0 by decide,if_false,if_true]
  rw [show ByteArray.mk #[(109:UInt8),(111:UInt8),(110:UInt8),(117:UInt8),(115:UInt8),(91:UInt8)]=bs [109,111,110,117,115,91] from rfl,show ByteArray.mk #[(44:UInt8),(32:UInt8)]=bs [44,32] from rfl,show ByteArray.mk #[(93:UInt8)]=bs [93] from rfl]
  simp only [cond_true,cond_false,Wy.fin_i,Wy.fin_bn,Wy.fin_k,show ((1:Int)==0)=false from rfl,show ((1:Int)==1)=true from rfl,show (decide ((0:Int)≤0)&&decide ((0:Int)<Int.ofNat [a,b].length))=true from rfl,show (decide ((0:Int)≤1)&&decide ((1:Int)<Int.ofNat [a,b].length))=true from rfl,show [a,b].getD (Int.toNat 0) default=a from rfl,show [a,b].getD (Int.toNat 1) default=b from rfl,g1,g2,zEk,zvA,List.length_append,List.length_cons,List.length_nil]
  rw [okS _ _ (by omega),okS _ _ (by omega),okS _ _ (by omega),okS _ _ (by omega)]
  simp
 | del a ha _ _ _=>
  obtain ⟨g1,l1⟩:=hg a (.inl (by simp))
  rw [zmI];simp only [List.map,zdp,List.getD_cons_zero,show ¬ (2:Int)=0 by decide,show ¬ (2:Int)=1 by decide,if_false,if_true]
  rw [show ByteArray.mk #[(100:UInt8),(101:UInt8),(108:UInt8),(116:UInt8),(97:UInt8),(91:UInt8)]=bs [100,101,108,116,97,91] from rfl,show ByteArray.mk #[(93:UInt8)]=bs [93] from rfl]
  simp only [cond_true,cond_false,Wy.fin_i,Wy.fin_bn,Wy.fin_k,show ((2:Int)==0)=false from rfl,show ((2:Int)==1)=false from rfl,show ((2:Int)==2)=true from rfl,show (decide ((0:Int)≤0)&&decide ((0:Int)<Int.ofNat [a].length))=true from rfl,show [a].getD (Int.toNat 0) default=a from rfl,g1,zEk,zvA,List.length_append,List.length_cons,List.length_nil]
  rw [okS _ _ (by omega),okS _ _ (by omega)]
  simp
 | abs a ha _ _=>
  obtain ⟨g1,l1⟩:=hg a (.inl (by simp))
  rw [zmI];simp only [List.map,zdp,List.getD_cons_zero,show ¬ (3:Int)=0 by decide,show ¬ (3:Int)=1 by decide,show ¬ (3:Int)=2 by decide,if_false,if_true]
  rw [show ByteArray.mk #[(97:UInt8),(98:UInt8),(115:UInt8),(101:UInt8),(110:UInt8),(116:UInt8),(91:UInt8)]=bs [97,98,115,101,110,116,91] from rfl,show ByteArray.mk #[(93:UInt8)]=bs [93] from rfl]
  simp only [cond_true,cond_false,Wy.fin_i,Wy.fin_bn,Wy.fin_k,show ((3:Int)==0)=false from rfl,show ((3:Int)==1)=false from rfl,show ((3:Int)==2)=false from rfl,show ((3:Int)==3)=true from rfl,show (decide ((0:Int)≤0)&&decide ((0:Int)<Int.ofNat [a].length))=true from rfl,show [a].getD (Int.toNat 0) default=a from rfl,g1,zEk,zvA,List.length_append,List.length_cons,List.length_nil]
  rw [okS _ _ (by omega),okS _ _ (by omega)]
  simp
 | tst f l o b hl hv hs hf=>
  obtain ⟨⟨f0,f3,o5,o10⟩,hb,hit⟩:=ztt hf;have hwl:=zid W.2.1.1;have hwb:rng b.Int:=zmG W.2.2.1.2.1
  have:=zd7 (W:=zny gT) (z:=default) l.length (fun i=>((),(),l,(l.length:Int),(i:Int),())) (fun i=>((⟨4,⟨0,0⟩,[],f,l,o,b⟩:At),(l.take i).map fun w=>bs (txI w),())) (fun _=>true) default ((⟨4,⟨0,0⟩,[],f,l,o,b⟩:At),l.map fun w=>bs (txI w))
   (fun i hi' H K D=>by
    show (zfY gT l l.length i (⟨4,⟨0,0⟩,[],f,l,o,b⟩:At) ((l.take i).map fun w=>bs (txI w))).ev H K D=_
    unfold zfY;have hm:=zu hi';obtain ⟨g1,l1⟩:=hg _ (.inr ⟨_,hm,rfl⟩);have l2:=zRr (hit _ hm).1;rw [show ByteArray.mk #[(58:UInt8),(32:UInt8)]=bs [58,32] from rfl]
    simp only [Wy.ev_i,Wy.ev_k,Wy.ev_h,Wy.ev_bn,Wy.ev_d,tT,hi',z95 (hit _ hm).1 (zmG (hwl _ hm).1.2.1),g1,zEk,zvA,qg,qf,List.length_nil];rw [okS _ _ (by omega),okS _ _ (by omega),zV (by simp only at hi; omega),zkq hi',List.map_append]
    have hb:decide ((((l.take i).map fun w=>bs (txI w)).length+1)*16≤zK)=true:=by simp only at hi; simp only [qe,List.length_map,List.length_take]; omega
    generalize ((l.take i).map fun w=>bs (txI w))=out at hb ⊢
    have hb':decide ((out.length+(0+1))*16≤zK)=true:=hb;simp only [hb,hb',cond_true,List.map_cons,List.map_nil,txI,List.append_assoc])
   (fun H K D=>by
    show (zfY gT l l.length l.length (⟨4,⟨0,0⟩,[],f,l,o,b⟩:At) ((l.take l.length).map fun w=>bs (txI w))).ev H K D=_
    unfold zfY;simp only [Wy.ev_i,Wy.ev_k,tT,Nat.lt_irrefl,List.take_length]) (l.length+(Int.ofNat l.length).toNat +Int.toNat (0:Int)+([]:yA).length+l.length+(0:Nat)+(1:Nat)) (by omega)
  rw [show zeV (fun _=>true) l.length 0=true from zem.2 fun _ _ _=>rfl] at this
  have e:zwz gT (l.length+(Int.ofNat l.length).toNat +Int.toNat (0:Int)+([]:yA).length+l.length+(0:Nat)+(1:Nat)) l (Int.ofNat l.length) (0:Int) (⟨4,⟨0,0⟩,[],f,l,o,b⟩:At) []=(true,((⟨4,⟨0,0⟩,[],f,l,o,b⟩:At),(l.map txI).map bs)):=by rw [List.map_map]; exact this
  simp only at hi
  have hlen:(zeI (l.map txI) [59,32]).length≤5000000000000:=by
   refine Nat.le_trans (zXl (B:=4200001000) (l.map txI) [59,32] fun y hy=> ?_) (by
    rw [List.length_map]; have:=Nat.mul_le_mul hi (Nat.le_refl 4200001000); omega)
   obtain ⟨w,hw,rfl⟩:=List.mem_map.1 hy;have h1:=(hg _ (.inr ⟨w,hw,rfl⟩)).2;have h2:=zRr (hit w hw).1;simp only [txI,qg,qf,List.length_nil]; omega
  have l3:=zbbE f;have l4:=zbbe o;have l5:=zRr hb;rw [zLy];simp only [zdp,show ¬ (4:Int)=0 by decide,show ¬ (4:Int)=1 by decide,show ¬ (4:Int)=2 by decide,show ¬ (4:Int)=3 by decide,if_false]
  rw [show ByteArray.mk #[(116:UInt8),(101:UInt8),(115:UInt8),(116:UInt8),(91:UInt8)]=bs [116,101,115,116,91] from rfl,show ByteArray.mk #[(123:UInt8)]=bs [123] from rfl,show ByteArray.mk #[(125:UInt8),(32:UInt8)]=bs [125,32] from rfl,show ByteArray.mk #[(59:UInt8),(32:UInt8)]=bs [59,32] from rfl,show ByteArray.mk #[(32:UInt8)]=bs [32] from rfl,show ByteArray.mk #[(93:UInt8)]=bs [93] from rfl]
  simp only [Wy.fin_i,show ((4:Int)==0)=false from rfl,show ((4:Int)==1)=false from rfl,show ((4:Int)==2)=false from rfl,show ((4:Int)==3)=false from rfl,cond_false]
  unfold strings_Join;obtain ⟨fb,ft⟩:=zbgq f0 f3;obtain ⟨ob,ot⟩:=zbfU o5 o10;rw [e,zY4];simp only [Wy.fin_i,Wy.fin_k,Wy.fin_bn,fb,ft,ob,ot,z1E _ _ (show (l.map txI).length≤140737488355328 by rw [List.length_map]; omega) (show (zeI (l.map txI) [59,32]).length≤140737488355328 by omega),z95 hb hwb,cond_true,zEk,zvA,List.length_append,List.length_cons,List.length_nil]
  rw [okS _ _ (by omega),okS _ _ (by omega),okS _ _ (by omega),okS _ _ (by omega),okS _ _ (by omega),okS _ _ (by omega),okS _ _ (by omega),okS _ _ (by omega)]
  simp
end
theorem z9k:∀ n,
  (∀ m a,zbF m a=true→zgA a→3*m≤n→zu6 n a=(true,bs (txN a)))∧
  (∀ m x,zd9 (zbF m) x=true→zgr x→x.Items.length≤1024→3*m+1≤n→zl3 n x=(true,bs (txA x)))∧
  (∀ m (l:yD),l.length≤1000→(∀ f∈l,zd9 (zbF m) f.At=true∧zgr f.At∧f.At.Items.length≤1024∧rng f.Exp)→3*m+2≤n→zgy n l=(true,bs (txL l)))
 | 0=>by
  refine ⟨?_, ?_, ?_⟩
  ·intro m a h _ hm; have:m=0:=by omega
   subst this; cases h
  all_goals (intros; omega)
 | n+1=>by
  obtain ⟨h1,h2,h3⟩:=z9k n;refine ⟨?_, ?_, ?_⟩
  ·intro m a h hw hm;cases m with
   | zero=>cases h
   | succ m=>
    have hl:=zw0 (zHZ h);have hlen:=(zZm (m+1)).1 a h;rw [zSv];refine zbhq _ a (by omega) (by omega) fun t ht=> ?_
    obtain ⟨⟨c1,c2⟩,hok⟩:=zwu h ht;obtain ⟨q1,q2⟩:=hl.2.2.2 t ht;have hwt:=zoA (zwY (ztX hw t ht)).2.1;refine ⟨h3 m t.Fs (by omega) (fun f hf=> ?_) (by omega), ?_,by constructor <;>omega⟩
    ·obtain ⟨⟨e1,_⟩,hv⟩:=zpd hok hf;exact ⟨hv,(zru (hwt f hf)).1,(q2 f hf).2,by have:=(q2 f hf).1; constructor <;>omega⟩
    ·refine Nat.le_trans (z8s fun f hf=>(zZm m).2 _ (zpd hok hf).2) ?_
     have hs:t.Fs.length+zbN t.Fs≤zN a:=by
      clear hok q1 q2 hwt hw h hlen hl;induction a with
      | nil=>cases ht
      | cons b r ih=>
       rw [zet];rcases qd.1 ht with rfl | ht
       ·omega
       ·have:=ih ht; omega
     omega
  ·intro m x h hw hi hm;rw [zJe];have W:=zpC hw;refine zbhC _ x h hw hi fun a ha=> ?_
   have hv:zbF m a=true∧zgA a:=by
    rcases ha with ha | ⟨w,hw',rfl⟩
    ·refine ⟨?_,(zj1 W.1.1 a ha).1⟩;cases zdv.1 h with
     | var r h=>cases ha
     | mon b c hb hc _ _ _=>
      simp only [qd,List.not_mem_nil,or_false] at ha;rcases ha with rfl | rfl
      ·exact hb
      ·exact hc
     | del b hb _ _ _=>rw [qh] at ha; subst ha; exact hb
     | abs b hb _ _=>rw [qh] at ha; subst ha; exact hb
     | tst f l o b hl hi hs hf=>cases ha
    ·refine ⟨?_,(zid W.2.1.1 w hw').2.1⟩;cases zdv.1 h with
     | tst f l o b hl hi2 hs hf=>exact (hi2 w hw').1
     | _=>cases hw'
   refine ⟨h1 m a hv.1 hv.2 (by omega), ?_⟩
   have q1:=(zZm m).1 a hv.1;have q2:=(ze8 hv.1).2.1;omega
  ·intro m l hl h hm;rw [zFg];refine zbhG _ l hl fun f hf=> ?_
   obtain ⟨q1,q2,q3,q4⟩:=h f hf;refine ⟨h2 m f.At q1 q2 q3 (by omega), ?_,q4⟩
   have q5:=(zZm m).2 f.At q1;have q6:=z1r q1 q3;omega
def hd (S:List UInt8) (u:List UInt8):Prop:=∀ c,u.head? =some c→c∈S
theorem zqt {S:List UInt8} {c:UInt8} {u:List UInt8} (h:c∈S):hd S (c::u):=fun d hd=>by
 simp only [List.head?_cons,qa] at hd; subst hd; exact h
theorem hd.mono {S T:List UInt8} {u:List UInt8} (h:hd S u) (hs:∀ c∈S,c∈T):hd T u:=fun c hc=>hs c (h c hc)
theorem hd.noDig {S:List UInt8} {u:List UInt8} (h:hd S u) (hs:∀ c∈S,zsV c=false):noDig u:=fun c hc=>hs c (h c hc)
theorem hd.ne {S:List UInt8} {u:List UInt8} (h:hd S u) {c:UInt8} (hs:c∉S):u.head? ≠some c:=fun e=>hs (h c e)
theorem hd.cons_ne {S:List UInt8} {u:List UInt8} {c:UInt8} (h:hd S (c::u)) (hs:c∉S):False:=hs (h c rfl)
theorem zOZ {α:Type} (tx:α→List UInt8) (S0:List UInt8) (s0:UInt8) (sr:List UInt8) (P:α→Prop) (hS:s0∉S0) (hR:∀ x y,P x→P y→∀ u v,hd (s0::S0) u→hd (s0::S0) v→tx x++u=tx y++v→x=y∧u=v):
  ∀ l l':List α,l≠[]→l'≠[]→(∀ x∈l,P x)→(∀ x∈l',P x)→∀ u v,hd S0 u→hd S0 v→zeI (l.map tx) (s0::sr)++u=zeI (l'.map tx) (s0::sr)++v→l=l'∧u=v
 | [],_,h,_,_,_,_,_,_,_,_=>absurd rfl h
 | _::_,[],_,h,_,_,_,_,_,_,_=>absurd rfl h
 | [x],[y],_,_,hx,hy,u,v,hu,hv,h=>by
  have mono:∀ c∈S0,c∈s0::S0:=fun c hc=>List.mem_cons_of_mem _ hc
  obtain ⟨h1,h2⟩:=hR x y (hx x (by simp)) (hy y (by simp)) u v (hu.mono mono) (hv.mono mono) h
  exact ⟨by rw [h1],h2⟩
 | [x],y::y'::r',_,_,hx,hy,u,v,hu,hv,h=>by
  have mono:∀ c∈S0,c∈s0::S0:=fun c hc=>List.mem_cons_of_mem _ hc
  simp only [List.map,zeI,List.append_assoc] at h;obtain ⟨h1,h2⟩:=hR x y (hx x (by simp)) (hy y (by simp)) u _ (hu.mono mono) (zqt (by simp)) h
  rw [h2] at hu;exact (hu.cons_ne hS).elim
 | x::x'::r,[y],_,_,hx,hy,u,v,hu,hv,h=>by
  have mono:∀ c∈S0,c∈s0::S0:=fun c hc=>List.mem_cons_of_mem _ hc
  simp only [List.map,zeI,List.append_assoc] at h;obtain ⟨h1,h2⟩:=hR x y (hx x (by simp)) (hy y (by simp)) _ v (zqt (by simp)) (hv.mono mono) h
  rw [← h2] at hv;exact (hv.cons_ne hS).elim
 | x::x'::r,y::y'::r',_,_,hx,hy,u,v,hu,hv,h=>by
  have h:zeI (((x::x'::r)).map tx) (s0::sr)++u=zeI (((y::y'::r')).map tx) (s0::sr)++v:=h;simp only [List.map,zeI,List.append_assoc] at h;obtain ⟨h1,h2⟩:=hR x y (hx x (by simp)) (hy y (by simp)) _ _ (zqt (by simp)) (zqt (by simp)) h
  have h3:=(List.append_right_inj sr).1 (List.cons.inj h2).2;obtain ⟨h4,h5⟩:=zOZ tx S0 s0 sr P hS hR (x'::r) (y'::r') (by simp) (by simp) (fun z hz=>hx z (List.mem_cons_of_mem _ hz)) (fun z hz=>hy z (List.mem_cons_of_mem _ hz)) u v hu hv h3
  exact ⟨by rw [h1,h4],h5⟩
theorem z8f {t:ByteArray} (h:t.size=0):t=ByteArray.mk #[]:=zHU (by
 have:t.data.toList.length=0:=by rw [Array.length_toList]; exact h
 rw [List.length_eq_zero_iff.1 this])
theorem z8E {x y:Value} (hx:zvC x=true) (hy:zvC y=true) (rx:rng x.Int) (ry:rng y.Int) {u v:List UInt8} (hu:hd [58,93] u) (hv:hd [58,93] v) (h:txV x++u=txV y++v):x=y∧u=v:=by
 have d1:∀ c∈([58,93]:List UInt8),zsV c=false:=by decide
 obtain ⟨cx,sx,ex,dx⟩:=z6w rx.1 rx.2;obtain ⟨cy,sy,ey,dy⟩:=z6w ry.1 ry.2
 have nd:∀ c:UInt8,c=45∨zsV c=true→c≠39∧c≠84∧c≠70:=fun c hc=>by
  refine ⟨?_, ?_, ?_⟩ <;>(intro e; subst e; revert hc; decide)
 obtain ⟨kx,ix,tx⟩:=x;obtain ⟨ky,iy,ty⟩:=y;simp only [zvC,Bool.or_eq_true,qc,beq_iff_eq,qe] at hx hy;simp only at rx ry ex ey;rcases hx with (⟨rfl,hx⟩ | ⟨⟨rfl,rfl⟩,hx⟩) | ⟨⟨rfl,hx⟩,hx2⟩
 ·have:=z8f hx; subst this;rcases hy with (⟨rfl,hy⟩ | ⟨⟨rfl,rfl⟩,hy⟩) | ⟨⟨rfl,hy⟩,hy2⟩
  ·have:=z8f hy; subst this;simp only [txV,if_true] at h;obtain ⟨h1,h2⟩:=zwI rx ry (hu.noDig d1) (hv.noDig d1) h;exact ⟨by rw [h1],h2⟩
  ·simp only [txV,if_true,show ¬ (1:Int)=0 by decide,if_false,ex,List.cons_append,qj] at h
   exact absurd h.1 (nd cx dx).1
  ·rcases hy2 with rfl | rfl
   ·simp only [txV,if_true,show ¬ (2:Int)=0 by decide,show ¬ (2:Int)=1 by decide,show ¬ (0:Int)=1 by decide,if_false,ex,List.cons_append,qj] at h
    exact absurd h.1 (nd cx dx).2.2
   ·simp only [txV,if_true,show ¬ (2:Int)=0 by decide,show ¬ (2:Int)=1 by decide,if_false,ex,List.cons_append,qj] at h
    exact absurd h.1 (nd cx dx).2.1
 ·rcases hy with (⟨rfl,hy⟩ | ⟨⟨rfl,rfl⟩,hy⟩) | ⟨⟨rfl,hy⟩,hy2⟩
  ·simp only [txV,if_true,show ¬ (1:Int)=0 by decide,if_false,ey,List.cons_append,qj] at h
   exact absurd h.1.symm (nd cy dy).1
  ·simp only [txV,if_true,show ¬ (1:Int)=0 by decide,if_false,List.cons_append,qj,true_and,List.append_assoc,List.nil_append] at h
   obtain ⟨h1,h2⟩:=z18 _ _ u v (hu.ne (by decide)) (hv.ne (by decide)) h
   exact ⟨by rw [zHU h1],h2⟩
  ·rcases hy2 with rfl | rfl <;>simp [txV] at h
 ·have:=z8f hx; subst this;rcases hy with (⟨rfl,hy⟩ | ⟨⟨rfl,rfl⟩,hy⟩) | ⟨⟨rfl,hy⟩,hy2⟩
  ·rcases hx2 with rfl | rfl
   ·simp only [txV,if_true,show ¬ (2:Int)=0 by decide,show ¬ (2:Int)=1 by decide,show ¬ (0:Int)=1 by decide,if_false,ey,List.cons_append,qj] at h
    exact absurd h.1.symm (nd cy dy).2.2
   ·simp only [txV,if_true,show ¬ (2:Int)=0 by decide,show ¬ (2:Int)=1 by decide,if_false,ey,List.cons_append,qj] at h
    exact absurd h.1.symm (nd cy dy).2.1
  ·rcases hx2 with rfl | rfl <;>simp [txV] at h
  ·have:=z8f hy; subst this;rcases hx2 with rfl | rfl <;>rcases hy2 with rfl | rfl <;>simp [txV] at h
   ·exact ⟨rfl,h⟩
   ·exact ⟨rfl,h⟩
theorem zbeL {f g:Int} (hf:0≤f∧f≤3) (hg:0≤g∧g≤3) {u v:List UInt8} (h:fnT f++123::u=fnT g++123::v):f=g∧u=v:=by
 have c1:f=0∨f=1∨f=2∨f=3:=by omega
 have c2:g=0∨g=1∨g=2∨g=3:=by omega
 rcases c1 with rfl | rfl | rfl | rfl <;>rcases c2 with rfl | rfl | rfl | rfl <;>simp [fnT] at h <;>exact ⟨rfl,h⟩
theorem zbeW {f g:Int} (hf:5≤f∧f≤10) (hg:5≤g∧g≤10) {u v:List UInt8} (h:opT f++32::u=opT g++32::v):f=g∧u=v:=by
 have c1:f=5∨f=6∨f=7∨f=8∨f=9∨f=10:=by omega
 have c2:g=5∨g=6∨g=7∨g=8∨g=9∨g=10:=by omega
 rcases c1 with rfl | rfl | rfl | rfl | rfl | rfl <;>rcases c2 with rfl | rfl | rfl | rfl | rfl | rfl <;>simp [opT] at h <;>exact ⟨rfl,h⟩
def SN:List UInt8:=[93,44,59,125]
def ST:List UInt8:=32::SN
def SF:List UInt8:=42::ST
def SA:List UInt8:=94::SF
theorem z4a:∀ c∈SA,zsV c=false:=by decide
theorem zbh6:∀ c∈ST,c∈SA:=by decide
theorem z3G:∀ c∈SF,c∈SA:=by decide
def RdN (V:yC→Bool):Prop:=∀ a b,V a=true→V b=true→zgA a→zgA b→∀ u v,hd SN u→hd SN v→txN a++u=txN b++v→a=b∧u=v
def RdA (V:yC→Bool):Prop:=∀ x y,zd9 V x=true→zd9 V y=true→zgr x→zgr y→∀ u v,hd SA u→hd SA v→txA x++u=txA y++v→x=y∧u=v
theorem zbfc {V:yC→Bool} {x:At} (h:zd9 V x=true):∃ c r,txA x=c::r∧zsV c=false:=by
 cases zdv.1 h with
 | var r h=>rw [txA]; exact ⟨116,_,rfl,rfl⟩
 | mon a b _ _ _ _ _=>rw [txA]; exact ⟨109,_,rfl,rfl⟩
 | del a _ _ _ _=>rw [txA]; exact ⟨100,_,rfl,rfl⟩
 | abs a _ _ _=>rw [txA]; exact ⟨97,_,rfl,rfl⟩
 | tst f l o b _ _ _ _=>rw [txA]; exact ⟨116,_,rfl,rfl⟩
theorem zbc4 {V:yC→Bool} (hV:RdN V):RdA V:=by
 intro x y hx hy wx wy u v hu hv h;have Wx:=zpC wx;have Wy:=zpC wy;have k0:¬ (1:Int)=0:=by decide
 have c44:∀ z,hd SN (44::z):=fun z=>zqt (by decide)
 have c93:∀ z,hd SN (93::z):=fun z=>zqt (by decide)
 have tE:∀ (r:RowID),zAK r=true→rng r.Table→∀ w z,ziE r.Table++w≠101::z:=fun r hr hg w z e=>by
  simp only [zAK,qc,qe] at hr;obtain ⟨d1,d2⟩:=zbdH (show 0≤r.Table by omega) hg.2
  cases hl:ziE r.Table with
  | nil=>exact d2 hl
  | cons c s=>
   rw [hl] at e d1;simp only [List.cons_append,qj] at e;rw [List.all_cons,e.1] at d1;revert d1; simp [zsV]
 cases zdv.1 hx with
 | var r hr=>
  have rr:=Wx.2.2.2.2.1;simp only at rr;cases zdv.1 hy with
  | var r' hr'=>
   have rr':=Wy.2.2.2.2.1;simp only at rr';rw [txA,txA] at h;simp only [zdp,if_true,txR,List.cons_append,qj,true_and,List.append_assoc] at h;obtain ⟨h1,h2⟩:=zwI (zmG rr.1) (zmG rr'.1) (fun c hc=>by simp only [List.head?_cons,qa] at hc; subst hc; rfl) (fun c hc=>by simp only [List.head?_cons,qa] at hc; subst hc; rfl) h
   simp only [qj,true_and] at h2;obtain ⟨h3,h4⟩:=zwI (zmG rr.2) (zmG rr'.2) (hu.noDig z4a) (hv.noDig z4a) h2;obtain ⟨t,s⟩:=r; obtain ⟨t',s'⟩:=r';simp only at h1 h3;exact ⟨by rw [h1,h3],h4⟩
  | tst f l o b _ _ _ _=>
   rw [txA,txA] at h;simp only [zdp,if_true,txR,show ¬ (4:Int)=0 by decide,show ¬ (4:Int)=1 by decide,show ¬ (4:Int)=2 by decide,show ¬ (4:Int)=3 by decide,if_false,List.cons_append,qj,true_and,List.append_assoc] at h
   exact absurd h (tE r hr (zmG rr.1) _ _)
  | mon a b _ _ _ _ _=>rw [txA,txA] at h; simp [zdp,txR] at h
  | del a _ _ _ _=>rw [txA,txA] at h; simp [zdp,txR] at h
  | abs a _ _ _=>rw [txA,txA] at h; simp [zdp,txR] at h
 | mon a b ha hb _ _ _=>
  cases zdv.1 hy with
  | mon a' b' ha' hb' _ _ _=>
   rw [txA,txA,zmI,zmI] at h;simp only [zdp,if_true,k0,if_false,List.map,List.getD_cons_zero,List.getD_cons_succ,List.cons_append,qj,true_and,List.append_assoc,List.nil_append] at h;have wa:=fun z hz=>(zj1 Wx.1.1 z hz).1
   have wb:=fun z hz=>(zj1 Wy.1.1 z hz).1
   obtain ⟨h1,h2⟩:=hV a a' ha ha' (wa a (by simp)) (wb a' (by simp)) _ _ (c44 _) (c44 _) h
   simp only [qj,true_and] at h2;obtain ⟨h3,h4⟩:=hV b b' hb hb' (wa b (by simp)) (wb b' (by simp)) _ _ (c93 _) (c93 _) h2
   simp only [qj,true_and] at h4;exact ⟨by rw [h1,h3],h4⟩
  | var r h=>rw [txA,txA] at h; simp [zdp,txR] at h
  | del a _ _ _ _=>rw [txA,txA] at h; simp [zdp,txR] at h
  | abs a _ _ _=>rw [txA,txA] at h; simp [zdp,txR] at h
  | tst f l o b _ _ _ _=>rw [txA,txA] at h; simp [zdp,txR] at h
 | del a ha _ _ _=>
  cases zdv.1 hy with
  | del a' ha' _ _ _=>
   rw [txA,txA,zmI,zmI] at h;simp only [zdp,if_true,show ¬ (2:Int)=0 by decide,show ¬ (2:Int)=1 by decide,if_false,List.map,List.getD_cons_zero,List.cons_append,qj,true_and,List.append_assoc,List.nil_append] at h
   have wa:=fun z hz=>(zj1 Wx.1.1 z hz).1
   have wb:=fun z hz=>(zj1 Wy.1.1 z hz).1
   obtain ⟨h1,h2⟩:=hV a a' ha ha' (wa a (by simp)) (wb a' (by simp)) _ _ (c93 _) (c93 _) h
   simp only [qj,true_and] at h2;exact ⟨by rw [h1],h2⟩
  | var r h=>rw [txA,txA] at h; simp [zdp,txR] at h
  | mon a b _ _ _ _ _=>rw [txA,txA] at h; simp [zdp,txR] at h
  | abs a _ _ _=>rw [txA,txA] at h; simp [zdp,txR] at h
  | tst f l o b _ _ _ _=>rw [txA,txA] at h; simp [zdp,txR] at h
 | abs a ha _ _=>
  cases zdv.1 hy with
  | abs a' ha' _ _=>
   rw [txA,txA,zmI,zmI] at h;simp only [zdp,if_true,show ¬ (3:Int)=0 by decide,show ¬ (3:Int)=1 by decide,show ¬ (3:Int)=2 by decide,if_false,List.map,List.getD_cons_zero,List.cons_append,qj,true_and,List.append_assoc,List.nil_append] at h
   have wa:=fun z hz=>(zj1 Wx.1.1 z hz).1
   have wb:=fun z hz=>(zj1 Wy.1.1 z hz).1
   obtain ⟨h1,h2⟩:=hV a a' ha ha' (wa a (by simp)) (wb a' (by simp)) _ _ (c93 _) (c93 _) h
   simp only [qj,true_and] at h2;exact ⟨by rw [h1],h2⟩
  | var r h=>rw [txA,txA] at h; simp [zdp,txR] at h
  | mon a b _ _ _ _ _=>rw [txA,txA] at h; simp [zdp,txR] at h
  | del a _ _ _ _=>rw [txA,txA] at h; simp [zdp,txR] at h
  | tst f l o b _ _ _ _=>rw [txA,txA] at h; simp [zdp,txR] at h
 | tst f l o b hl hi hs hf=>
  cases zdv.1 hy with
  | tst f' l' o' b' hl' hi' hs' hf'=>
   obtain ⟨⟨f0,f3,o5,o10⟩,hb,hit⟩:=ztt hf;obtain ⟨⟨f0',f3',o5',o10'⟩,hb',hit'⟩:=ztt hf';have wl:=zid Wx.2.1.1;have wl':=zid Wy.2.1.1;rw [txA,txA,zLy,zLy] at h;simp only [zdp,show ¬ (4:Int)=0 by decide,show ¬ (4:Int)=1 by decide,show ¬ (4:Int)=2 by decide,show ¬ (4:Int)=3 by decide,if_false,List.cons_append,qj,true_and,List.append_assoc,List.nil_append] at h
   obtain ⟨h1,h2⟩:=zbeL ⟨f0,f3⟩ ⟨f0',f3'⟩ h
   obtain ⟨h3,h4⟩:=zOZ txI [125] 59 [32] (fun w=>(V w.Ann=true∧zgA w.Ann)∧zvC w.Value=true∧rng w.Value.Int) (by decide) (fun x y px py u v hu hv e=>by
    simp only [txI,List.append_assoc,List.cons_append,List.nil_append] at e;obtain ⟨e1,e2⟩:=z8E px.2.1 py.2.1 px.2.2 py.2.2 (zqt (by decide)) (zqt (by decide)) e
    simp only [qj,true_and] at e2;obtain ⟨e3,e4⟩:=hV _ _ px.1.1 py.1.1 px.1.2 py.1.2 u v (hu.mono (by decide)) (hv.mono (by decide)) e2
    obtain ⟨vx,ax⟩:=x; obtain ⟨vy,ay⟩:=y;simp only at e1 e3;exact ⟨by rw [e1,e3],e4⟩) l l' hl hl' (fun w hw=>⟨⟨(hi w hw).1,(wl w hw).2.1⟩,(hit w hw).1,zmG (wl w hw).1.2.1⟩) (fun w hw=>⟨⟨(hi' w hw).1,(wl' w hw).2.1⟩,(hit' w hw).1,zmG (wl' w hw).1.2.1⟩) _ _ (zqt (by decide)) (zqt (by decide)) h2
   simp only [qj,true_and] at h4;obtain ⟨h5,h6⟩:=zbeW ⟨o5,o10⟩ ⟨o5',o10'⟩ h4;obtain ⟨h7,h8⟩:=z8E hb hb' (zmG Wx.2.2.1.2.1) (zmG Wy.2.2.1.2.1) (zqt (by decide)) (zqt (by decide)) h6
   simp only [qj,true_and] at h8;exact ⟨by rw [h1,h3,h5,h7],h8⟩
  | var r hr=>
   have rr:=Wy.2.2.2.2.1;simp only at rr;rw [txA,txA] at h;simp only [zdp,if_true,txR,show ¬ (4:Int)=0 by decide,show ¬ (4:Int)=1 by decide,show ¬ (4:Int)=2 by decide,show ¬ (4:Int)=3 by decide,if_false,List.cons_append,qj,true_and,List.append_assoc] at h
   exact absurd h.symm (tE r hr (zmG rr.1) _ _)
  | mon a b _ _ _ _ _=>rw [txA,txA] at h; simp [zdp,txR] at h
  | del a _ _ _ _=>rw [txA,txA] at h; simp [zdp,txR] at h
  | abs a _ _ _=>rw [txA,txA] at h; simp [zdp,txR] at h
def gF (V:yC→Bool) (f:Fc):Prop:=zd9 V f.At=true∧zgr f.At∧rng f.Exp
theorem zbgY {V:yC→Bool} (hA:RdA V) {f g:Fc} (hf:gF V f) (hg:gF V g) {u v:List UInt8} (hu:hd SF u) (hv:hd SF v) (h:txF f++u=txF g++v):f=g∧u=v:=by
 obtain ⟨x,e⟩:=f; obtain ⟨y,e'⟩:=g;obtain ⟨a1,a2,a3⟩:=hf; obtain ⟨b1,b2,b3⟩:=hg;simp only at a1 a2 a3 b1 b2 b3;have c94:∀ z,hd SA (94::z):=fun z=>zqt (by decide)
 have n94:(94:UInt8)∉SF:=by decide
 have dg:∀ c∈SF,zsV c=false:=fun c hc=>z4a c (z3G c hc)
 unfold txF zOP at h;simp only at h;by_cases h1:e=1
 ·by_cases h2:e'=1
  ·rw [if_pos h1,if_pos h2] at h;obtain ⟨q1,q2⟩:=hA x y a1 b1 a2 b2 u v (hu.mono z3G) (hv.mono z3G) h;exact ⟨by rw [q1,h1,h2],q2⟩
  ·rw [if_pos h1,if_neg h2,List.append_assoc] at h;obtain ⟨q1,q2⟩:=hA x y a1 b1 a2 b2 u _ (hu.mono z3G) (c94 _) h;rw [q2] at hu;exact (hu.cons_ne n94).elim
 ·by_cases h2:e'=1
  ·rw [if_neg h1,if_pos h2,List.append_assoc] at h;obtain ⟨q1,q2⟩:=hA x y a1 b1 a2 b2 _ v (c94 _) (hv.mono z3G) h;rw [← q2] at hv;exact (hv.cons_ne n94).elim
  ·rw [if_neg h1,if_neg h2,List.append_assoc,List.append_assoc] at h;obtain ⟨q1,q2⟩:=hA x y a1 b1 a2 b2 _ _ (c94 _) (c94 _) h;simp only [List.cons_append,qj,true_and] at q2;obtain ⟨q3,q4⟩:=zwI a3 b3 (hu.noDig dg) (hv.noDig dg) q2;exact ⟨by rw [q1,q3],q4⟩
theorem z5P {V:yC→Bool} (hA:RdA V) {l l':yD} (hl:l≠[]) (hl':l'≠[]) (h1:∀ f∈l,gF V f) (h2:∀ f∈l',gF V f) {u v:List UInt8} (hu:hd ST u) (hv:hd ST v) (h:txL l++u=txL l'++v):l=l'∧u=v:=by
 unfold txL at h;rw [zzH,zzH] at h;exact zOZ txF ST 42 [] (gF V) (by decide) (fun x y px py u v hu hv e=>zbgY hA px py hu hv e) l l' hl hl' h1 h2 u v hu hv h
theorem zGi {V:yC→Bool} {l:yD} (hl:l≠[]) (h:∀ f∈l,gF V f):∃ c r,txL l=c::r∧zsV c=false:=by
 cases l with
 | nil=>exact absurd rfl hl
 | cons f r=>
  obtain ⟨c,s,e,hc⟩:=zbfc (h f (by simp)).1
  have:∃ s',txF f=c::s':=by
   unfold txF zOP;split
   ·exact ⟨s,e⟩
   ·exact ⟨_,by rw [e]; rfl⟩
  obtain ⟨s',e'⟩:=this;unfold txL;rw [zzH];cases r with
  | nil=>exact ⟨c,s',by simp only [List.map,zeI]; exact e',hc⟩
  | cons g r=>exact ⟨c,_,by simp only [List.map,zeI]; rw [e']; rfl,hc⟩
def gT (V:yC→Bool) (t:Term):Prop:=(1≤t.Cf∧t.Cf≤9223372036854775807)∧∀ f∈t.Fs,gF V f
theorem z5b {n:Int} (h:1≤n) (h2:n≤9223372036854775807):∃ c r,ziE n=c::r∧zsV c=true∧c≠48:=by
 have e:ziE n=Lib.decDigits n.toNat:=by rw [z2G (by omega) h2,Lib.itoa,if_neg (by omega)]
 obtain ⟨a1,a2,a3,a4⟩:=zYP n.toNat n.toNat (Nat.le_refl _);rw [e];cases hl:Lib.decDigits n.toNat with
 | nil=>exact absurd hl a3
 | cons c r=>
  rw [hl] at a1 a4;rw [List.all_cons,qc] at a1;exact ⟨c,r,rfl,a1.1,fun e=>a4 (by omega) (by rw [e]; rfl)⟩
theorem z8D {l:yD}:zMl l=[]↔l=[]:=by rw [zzH,List.map_eq_nil_iff]
theorem z9T (t:Term):txT t=if t.Fs=[] then ziE t.Cf else if t.Cf=1 then txL t.Fs else ziE t.Cf++42::txL t.Fs:=by
 unfold txT zYG;by_cases h:t.Fs=[]
 ·rw [if_pos (z8D.2 h),if_pos h]
 ·rw [if_neg (fun e=>h (z8D.1 e)),if_neg h]; rfl
theorem zbhM {V:yC→Bool} (hA:RdA V) {s t:Term} (hs:gT V s) (ht:gT V t) {u v:List UInt8} (hu:hd ST u) (hv:hd ST v) (h:txT s++u=txT t++v):s=t∧u=v:=by
 obtain ⟨c,l⟩:=s; obtain ⟨c',l'⟩:=t;obtain ⟨⟨c1,c2⟩,h1⟩:=hs; obtain ⟨⟨c1',c2'⟩,h2⟩:=ht;simp only at c1 c2 h1 c1' c2' h2;have dg:∀ c∈ST,zsV c=false:=fun c hc=>z4a c (zbh6 c hc)
 have n42:(42:UInt8)∉ST:=by decide
 have d42:∀ z,noDig (42::z):=fun z c hc=>by simp only [List.head?_cons,qa] at hc; subst hc; rfl
 have rc:rng c:=⟨by omega,c2⟩
 have rc':rng c':=⟨by omega,c2'⟩
 obtain ⟨d,r,e,hd,_⟩:=z5b c1 c2;obtain ⟨d',r',e',hd',_⟩:=z5b c1' c2';rw [z9T,z9T] at h;simp only at h;by_cases l0:l=[]
 ·rw [if_pos l0] at h;by_cases l0':l'=[]
  ·rw [if_pos l0'] at h;obtain ⟨q1,q2⟩:=zwI rc rc' (hu.noDig dg) (hv.noDig dg) h;exact ⟨by rw [q1,l0,l0'],q2⟩
  ·rw [if_neg l0'] at h;by_cases k':c'=1
   ·rw [if_pos k'] at h;obtain ⟨d2,r2,e2,hd2⟩:=zGi l0' h2;rw [e,e2] at h;simp only [List.cons_append,qj] at h;rw [h.1,hd2] at hd; cases hd
   ·rw [if_neg k',List.append_assoc] at h;obtain ⟨q1,q2⟩:=zwI rc rc' (hu.noDig dg) (d42 _) h;rw [q2] at hu;exact (hu.cons_ne n42).elim
 ·rw [if_neg l0] at h;by_cases k:c=1
  ·rw [if_pos k] at h;obtain ⟨d2,r2,e2,hd2⟩:=zGi l0 h1;by_cases l0':l'=[]
   ·rw [if_pos l0',e2,e'] at h;simp only [List.cons_append,qj] at h;rw [← h.1,hd2] at hd'; cases hd'
   ·rw [if_neg l0'] at h;by_cases k':c'=1
    ·rw [if_pos k'] at h;obtain ⟨q1,q2⟩:=z5P hA l0 l0' h1 h2 hu hv h;exact ⟨by rw [q1,k,k'],q2⟩
    ·rw [if_neg k',e2,e'] at h;simp only [List.cons_append,qj] at h;rw [← h.1,hd2] at hd'; cases hd'
  ·rw [if_neg k,List.append_assoc] at h;by_cases l0':l'=[]
   ·rw [if_pos l0'] at h;obtain ⟨q1,q2⟩:=zwI rc rc' (d42 _) (hv.noDig dg) h;rw [← q2] at hv;exact (hv.cons_ne n42).elim
   ·rw [if_neg l0'] at h;by_cases k':c'=1
    ·rw [if_pos k'] at h;obtain ⟨d2,r2,e2,hd2⟩:=zGi l0' h2;rw [e,e2] at h;simp only [List.cons_append,qj] at h;rw [h.1,hd2] at hd; cases hd
    ·rw [if_neg k',List.append_assoc] at h;obtain ⟨q1,q2⟩:=zwI rc rc' (d42 _) (d42 _) h;simp only [List.cons_append,qj,true_and] at q2;obtain ⟨q3,q4⟩:=z5P hA l0 l0' h1 h2 hu hv q2;exact ⟨by rw [q1,q3],q4⟩
theorem zbfg {V:yC→Bool} {t:Term} (ht:gT V t):∃ c r,txT t=c::r∧c≠48:=by
 obtain ⟨⟨c1,c2⟩,h1⟩:=ht;obtain ⟨d,r,e,hd,h48⟩:=z5b c1 c2;rw [z9T];by_cases l0:t.Fs=[]
 ·rw [if_pos l0]; exact ⟨d,r,e,h48⟩
 ·rw [if_neg l0];split
  ·obtain ⟨d2,r2,e2,hd2⟩:=zGi l0 h1;exact ⟨d2,r2,e2,fun e=>by rw [e] at hd2; revert hd2; decide⟩
  ·exact ⟨d,_,by rw [e]; rfl,h48⟩
theorem zbg8 {V:yC→Bool} (hA:RdA V) {a b:yC} (ha:∀ t∈a,gT V t) (hb:∀ t∈b,gT V t) {u v:List UInt8} (hu:hd SN u) (hv:hd SN v) (h:txN a++u=txN b++v):a=b∧u=v:=by
 have en:∀ z:yC,z≠[]→txN z=zeI (z.map txT) [32,43,32]:=fun z hz=>by
  unfold txN zT4; rw [zTY,if_neg (by simpa using hz)]
 have e0:txN []=[48]:=by unfold txN zT4; rw [zUo,if_pos rfl]
 have h48:∀ z:yC,z≠[]→(∀ t∈z,gT V t)→∃ c r,txN z=c::r∧c≠48:=fun z hz hg=>by
  rw [en z hz];cases z with
  | nil=>exact absurd rfl hz
  | cons t r=>
   obtain ⟨c,s,e,hc⟩:=zbfg (hg t (by simp))
   cases r with
   | nil=>exact ⟨c,s,by simp only [List.map,zeI]; exact e,hc⟩
   | cons t' r=>exact ⟨c,_,by simp only [List.map,zeI]; rw [e]; rfl,hc⟩
 by_cases a0:a=[]
 ·by_cases b0:b=[]
  ·rw [a0,b0] at h;exact ⟨by rw [a0,b0],List.append_cancel_left h⟩
  ·obtain ⟨c,r,e,hc⟩:=h48 b b0 hb;rw [a0,e0,e] at h;simp only [List.cons_append,qj] at h;exact absurd h.1.symm hc
 ·by_cases b0:b=[]
  ·obtain ⟨c,r,e,hc⟩:=h48 a a0 ha;rw [b0,e0,e] at h;simp only [List.cons_append,qj] at h;exact absurd h.1 hc
  ·rw [en a a0,en b b0] at h;exact zOZ txT SN 32 [43,32] (gT V) (by decide) (fun x y px py u v hu hv e=>zbhM hA px py hu hv e) a b a0 b0 ha hb u v hu hv h
theorem zbem:∀ m,RdN (zbF m)∧RdA (zbF m):=by
 intro m;induction m with
 | zero=>
  have:RdN (zbF 0):=fun a b ha=>by cases ha
  exact ⟨this,zbc4 this⟩
 | succ m ih=>
  have:RdN (zbF (m+1)):=fun a b ha hb wa wb u v hu hv h=>by
   have key:∀ z,zbF (m+1) z=true→zgA z→∀ t∈z,gT (zbF m) t:=fun z hz wz t ht=>by
    obtain ⟨⟨c1,c2⟩,hok⟩:=zwu hz ht;have hwt:=zoA (zwY (ztX wz t ht)).2.1;exact ⟨⟨c1,by omega⟩,fun f hf=>⟨(zpd hok hf).2,(zru (hwt f hf)).1,zmG (zru (hwt f hf)).2⟩⟩
   exact zbg8 ih.2 (key a ha wa) (key b hb wb) hu hv h
  exact ⟨this,zbc4 this⟩
theorem zbgQ {m:Nat} {l l':yD} (h1:∀ f∈l,gF (zbF m) f) (h2:∀ f∈l',gF (zbF m) f) (h:txL l=txL l'):l=l':=by
 have e0:txL []=[]:=by unfold txL; rw [zMl]; rfl
 by_cases l0:l=[]
 ·by_cases l0':l'=[]
  ·rw [l0,l0']
  ·obtain ⟨c,r,e,_⟩:=zGi l0' h2;rw [l0,e0,e] at h; cases h
 ·by_cases l0':l'=[]
  ·obtain ⟨c,r,e,_⟩:=zGi l0 h1;rw [l0',e0,e] at h; cases h
  ·exact (z5P (zbem m).2 l0 l0' h1 h2 (u:=[]) (v:=[]) (fun c hc=>by cases hc) (fun c hc=>by cases hc) (by rw [h])).1
end Go.Proofs.YtljlfiomikifjaaGreatDoor
end
