/- Texts of this claim, joined (the program, its functions in plain words, and what they compute). -/
import Derived.Test.YtljlfiomikifjaaGreatDoorGC6
set_option autoImplicit false
set_option linter.unusedVariables false
set_option linter.unusedSectionVars false
set_option linter.unusedSimpArgs false
set_option maxRecDepth 1000000
set_option maxHeartbeats 0
/- What the laws examine: annotations of small weight. -/
noncomputable section
namespace Go.Proofs.YtljlfiomikifjaaGreatDoor
open Go Go.Ab
theorem zoA:∀ {l:yD},ztP l→∀ x∈l,zwU x
 | [],_,x,hx=>by cases hx
 | y::r,h,x,hx=>by
  unfold ztP at h;rcases qd.1 hx with rfl | hx
  ·exact h.1
  ·exact zoA h.2 x hx
theorem ztX:∀ {l:yC},zgA l→∀ x∈l,zCl x
 | [],_,x,hx=>by cases hx
 | y::r,h,x,hx=>by
  unfold zgA at h;rcases qd.1 hx with rfl | hx
  ·exact h.1
  ·exact ztX h.2 x hx
theorem zj1:∀ {l:yA},zxB l→∀ x∈l,zgA x∧x.length≤zbk
 | [],_,x,hx=>by cases hx
 | y::r,h,x,hx=>by
  unfold zxB at h;rcases qd.1 hx with rfl | hx
  ·exact h.1
  ·exact zj1 h.2 x hx
theorem zid:∀ {l:yE},ztb l→∀ x∈l,zTk x.Value∧zgA x.Ann∧x.Ann.length≤zbk
 | [],_,x,hx=>by cases hx
 | y::r,h,x,hx=>by
  unfold ztb at h;rcases qd.1 hx with rfl | hx
  ·have:=h.1; unfold zHo at this; exact ⟨this.1,this.2.1,this.2.2⟩
  ·exact zid h.2 x hx
theorem zwY {t:Term} (h:zCl t):wf2 t.Cf∧ztP t.Fs∧t.Fs.length≤zbk:=by
 unfold zCl at h; exact ⟨h.1,h.2.1,h.2.2⟩
theorem zru {t:Fc} (h:zwU t):zgr t.At∧wf3 t.Exp:=by
 unfold zwU at h; exact h
theorem zpC {x:At} (h:zgr x):(zxB x.Ag∧x.Ag.length≤zbk)∧(ztb x.Items∧x.Items.length≤zbk)∧zTk x.Bd∧wf3 x.Kind∧zWk x.Row∧wf3 x.Func∧wf3 x.Op:=by
 obtain ⟨k,r,a,f,i,o,b⟩:=x; unfold zgr at h; exact ⟨h.2.2.1,h.2.2.2.2.1,h.2.2.2.2.2.2,h.1,h.2.1,h.2.2.2.1,h.2.2.2.2.2.1⟩
theorem zjC {z:Int} (h0: -4611686018427387904≤z) (h:z<4611686018427387904):IntKind.i64.wrap z=z:=zZo (by omega) (by omega)
mutual
def zF2:At→Nat
 | ⟨_,_,a,_,i,_,b⟩=>i.length+a.length+b.Text.size+zp4 a+zk1 i
def zhf:yD→Nat
 | []=>0
 | ⟨x,_⟩::r=>zF2 x+zhf r
def zes:yC→Nat
 | []=>0
 | ⟨_,fs⟩::r=>1+fs.length+zhf fs+zes r
def zp4:yA→Nat
 | []=>0
 | a::r=>zes a+zp4 r
def zk1:yE→Nat
 | []=>0
 | ⟨v,a⟩::r=>v.Text.size+zes a+zk1 r
end
theorem z35 (x:At):zF2 x=x.Items.length+x.Ag.length+x.Bd.Text.size+zp4 x.Ag+zk1 x.Items:=by cases x; rw [zF2]
theorem zOo (f:Fc) (r:yD):zhf (f::r)=zF2 f.At+zhf r:=by cases f; rw [zhf]
theorem zPE (t:Term) (r:yC):zes (t::r)=1+t.Fs.length+zhf t.Fs+zes r:=by cases t; rw [zes]
theorem zWv (a:yC) (r:yA):zp4 (a::r)=zes a+zp4 r:=by rw [zp4]
theorem zIK (w:Wd) (r:yE):zk1 (w::r)=w.Value.Text.size+zes w.Ann+zk1 r:=by cases w; rw [zk1]
theorem zbaM:zp4 []=0:=by rw [zp4]
theorem z9c:zk1 []=0:=by rw [zk1]
theorem z5W:zhf []=0:=by rw [zhf]
theorem zbcr:zes []=0:=by rw [zes]
section
variable (g:yC→Int→Int→Bool×Int) (a:yC) (limit d:Nat) (hl:limit≤1000) (hd:d≤100) (B:Nat) (hB:B≤1152921504606846976) (P:yC→Prop)
include hl hd hB
theorem w14 (x:At) (i k:Int) (hlen:x.Ag.length≤zbk) (hg:∀ y∈x.Ag,∀ l:Nat,l≤1000→∃ w:Nat,g y l d=(true,(w:Int))∧w≤B∧(w≤l→P y∧zes y≤w)):
  ∀ (fuel j n:Nat),x.Ag.length<j+fuel→j≤x.Ag.length→n≤2305843009213693952→∃ n':Nat,zAw g fuel a limit (d+1:Nat) n i k j x=(true,(a,(limit:Int),((d+1:Nat):Int),(n':Int),i,k,x))∧n≤n'∧n'≤max n (limit+B)∧(n'≤limit→(∀ y∈x.Ag.drop j,P y)∧n+zp4 (x.Ag.drop j)≤n')
 | 0,j,n,h1,h2,h3=>by omega
 | fuel+1,j,n,h1,h2,h3=>by
  show ∃ n':Nat,(zAl g a limit (d+1:Nat) n i k j x).ev (fun x y=>zAw g fuel x.1 x.2.1 x.2.2.1 x.2.2.2.1 x.2.2.2.2.1 x.2.2.2.2.2.1 x.2.2.2.2.2.2.2.1 y.1) (fun r=>(true,r)) (false,default)=_∧_
  unfold zAl;have hml:zbk=140737488351232:=rfl;by_cases hj:j<x.Ag.length
  ·by_cases hn:n≤limit
   ·have e1:IntKind.i64.wrap ((limit:Int) - (n:Int))=((limit - n:Nat):Int):=by rw [zjC (by omega) (by omega)]; omega
    obtain ⟨w,hw,hwB,hwP⟩:=hg _ (zu hj) (limit - n) (by omega)
    have ed:IntKind.i64.wrap (((d+1:Nat):Int) - 1)=(d:Int):=by rw [zjC (by omega) (by omega)]; omega
    simp only [Wy.ev_i,Wy.ev_k,Wy.ev_h,Wy.ev_bn,Wy.ev_d,tT,hj,zCa,hn,e1,ed,hw];have e3:IntKind.i64.wrap ((n:Int)+(w:Int))=((n+w:Nat):Int):=by rw [zjC (by omega) (by omega)]; omega
    rw [e3,zV (by omega)]
    obtain ⟨n',h4,h5,h6,h7⟩:=w14 x i k hlen hg fuel (j+1) (n+w) (by omega) (by omega) (by omega)
    refine ⟨n',h4,by omega,by omega,fun hn'=> ?_⟩
    obtain ⟨h8,h9⟩:=h7 hn';obtain ⟨p1,p2⟩:=hwP (by omega)
    rw [zbG hj,zWv];refine ⟨fun y hy=> ?_,by omega⟩
    rcases qd.1 hy with rfl | hy
    ·exact p1
    ·exact h8 y hy
   ·simp only [Wy.ev_i,Wy.ev_k,Wy.ev_h,Wy.ev_bn,Wy.ev_d,tT,hj,zCa,hn];exact ⟨n,rfl,Nat.le_refl _,by omega,fun h=>absurd h hn⟩
  ·simp only [Wy.ev_i,Wy.ev_k,Wy.ev_h,Wy.ev_bn,Wy.ev_d,tT,hj];exact ⟨n,rfl,Nat.le_refl _,by omega,fun _=>by rw [zdd hj,zbaM]; exact ⟨fun y hy=>(by cases hy),Nat.le_refl _⟩⟩
theorem w18 (x:At) (i k:Int) (hlen:x.Items.length≤zbk) (hg:∀ y∈x.Items,y.Value.Text.size≤zbk∧∀ l:Nat,l≤1000→∃ w:Nat,g y.Ann l d=(true,(w:Int))∧w≤B∧(w≤l→P y.Ann∧zes y.Ann≤w)):
  ∀ (fuel j n:Nat),x.Items.length<j+fuel→j≤x.Items.length→n≤2305843009213693952→∃ n':Nat,zAt g fuel a limit (d+1:Nat) n i k j x=(true,(a,(limit:Int),((d+1:Nat):Int),(n':Int),i,k))∧n≤n'∧n'≤max n (limit+zbk+B)∧(n'≤limit→(∀ y∈x.Items.drop j,y.Value.Text.size≤1000∧P y.Ann)∧n+zk1 (x.Items.drop j)≤n')
 | 0,j,n,h1,h2,h3=>by omega
 | fuel+1,j,n,h1,h2,h3=>by
  show ∃ n':Nat,(zz5 g a limit (d+1:Nat) n i k j x).ev (fun x y=>zAt g fuel x.1 x.2.1 x.2.2.1 x.2.2.2.1 x.2.2.2.2.1 x.2.2.2.2.2.1 x.2.2.2.2.2.2.2.1 y.1) (fun r=>(true,r)) (false,default)=_∧_
  unfold zz5;have hml:zbk=140737488351232:=rfl;by_cases hj:j<x.Items.length
  ·by_cases hn:n≤limit
   ·have e1:IntKind.i64.wrap ((limit:Int) - (n:Int))=((limit - n:Nat):Int):=by rw [zjC (by omega) (by omega)]; omega
    obtain ⟨ht,hgy⟩:=hg _ (zu hj);obtain ⟨w,hw,hwB,hwP⟩:=hgy (limit - n) (by omega)
    have ed:IntKind.i64.wrap (((d+1:Nat):Int) - 1)=(d:Int):=by rw [zjC (by omega) (by omega)]; omega
    simp only [Wy.ev_i,Wy.ev_k,Wy.ev_h,Wy.ev_bn,Wy.ev_d,tT,hj,zCa,hn,e1,ed,hw];generalize hsz:(x.Items.getD j default).Value.Text.size=sz at *;have e3:IntKind.i64.wrap (IntKind.i64.wrap ((n:Int)+(sz:Int))+(w:Int))=((n+sz+w:Nat):Int):=by rw [zjC (z:=(n:Int)+(sz:Int)) (by omega) (by omega),zjC (by omega) (by omega)]; omega
    rw [e3,zV (by omega)]
    obtain ⟨n',h4,h5,h6,h7⟩:=w18 x i k hlen hg fuel (j+1) (n+sz+w) (by omega) (by omega) (by omega)
    refine ⟨n',h4,by omega,by omega,fun hn'=> ?_⟩
    obtain ⟨h8,h9⟩:=h7 hn';obtain ⟨p1,p2⟩:=hwP (by omega)
    rw [zbG hj,zIK];refine ⟨fun y hy=> ?_,by omega⟩
    rcases qd.1 hy with rfl | hy
    ·exact ⟨by omega,p1⟩
    ·exact h8 y hy
   ·simp only [Wy.ev_i,Wy.ev_k,Wy.ev_h,Wy.ev_bn,Wy.ev_d,tT,hj,zCa,hn];exact ⟨n,rfl,Nat.le_refl _,by omega,fun h=>absurd h hn⟩
  ·simp only [Wy.ev_i,Wy.ev_k,Wy.ev_h,Wy.ev_bn,Wy.ev_d,tT,hj];exact ⟨n,rfl,Nat.le_refl _,by omega,fun _=>by rw [zdd hj,z9c]; exact ⟨fun y hy=>(by cases hy),Nat.le_refl _⟩⟩
theorem w9 (i:Nat) (hi:i<a.length) (hla:(a.getD i default).Fs.length≤zbk) (hg:∀ f∈(a.getD i default).Fs,f.At.Ag.length≤zbk∧f.At.Items.length≤zbk∧f.At.Bd.Text.size≤zbk∧(∀ y∈f.At.Ag,∀ l:Nat,l≤1000→∃ w:Nat,g y l d=(true,(w:Int))∧w≤B∧(w≤l→P y∧zes y≤w))∧
   ∀ y∈f.At.Items,y.Value.Text.size≤zbk∧∀ l:Nat,l≤1000→∃ w:Nat,g y.Ann l d=(true,(w:Int))∧w≤B∧(w≤l→P y.Ann∧zes y.Ann≤w)):
  ∀ (fuel k n:Nat),(a.getD i default).Fs.length<k+fuel→k≤(a.getD i default).Fs.length→n≤2305843009213693952→∃ n':Nat,zBB g fuel a limit (d+1:Nat) n i k=(true,(a,(limit:Int),((d+1:Nat):Int),(n':Int),(i:Int)))∧n≤n'∧n'≤max n (limit+4*zbk+B)∧
   (n'≤limit→(∀ f∈(a.getD i default).Fs.drop k,(f.At.Ag.length≤1000∧f.At.Items.length≤1000∧f.At.Bd.Text.size≤1000)∧(∀ y∈f.At.Ag,P y)∧∀ y∈f.At.Items,y.Value.Text.size≤1000∧P y.Ann)∧n+zhf ((a.getD i default).Fs.drop k)≤n')
 | 0,k,n,h1,h2,h3=>by omega
 | fuel+1,k,n,h1,h2,h3=>by
  show ∃ n':Nat,(zBA g a limit (d+1:Nat) n i k).ev (fun x y=>zBB g fuel x.1 x.2.1 x.2.2.1 x.2.2.2.1 x.2.2.2.2.1 x.2.2.2.2.2.1) (fun r=>(true,r)) (false,default)=_∧_
  unfold zBA;have hml:zbk=140737488351232:=rfl;by_cases hk:k<(a.getD i default).Fs.length
  ·by_cases hn:n≤limit
   ·simp only [Wy.ev_i,Wy.ev_k,Wy.ev_h,Wy.ev_bn,Wy.ev_d,tT,hi,hk,zCa,hn,At.eta];obtain ⟨ha1,ha2,ha3,hgA,hgI⟩:=hg _ (zu hk);generalize hf:((a.getD i default).Fs.getD k default)=f at *
    have e0:IntKind.i64.wrap (IntKind.i64.wrap (IntKind.i64.wrap ((n:Int)+(f.At.Items.length:Int))+(f.At.Ag.length:Int))+(f.At.Bd.Text.size:Int))=((n+f.At.Items.length+f.At.Ag.length+f.At.Bd.Text.size:Nat):Int):=by
     rw [zjC (z:=(n:Int)+(f.At.Items.length:Int)) (by omega) (by omega),zjC (z:=(n:Int)+(f.At.Items.length:Int)+(f.At.Ag.length:Int)) (by omega) (by omega),zjC (by omega) (by omega)]; omega
    rw [e0];obtain ⟨n1,q1,q2,q3,q4⟩:=w14 g a limit d hl hd B hB P f.At i k ha1 hgA (a.length+limit+(d+1)+((n+f.At.Items.length+f.At.Ag.length+f.At.Bd.Text.size:Nat):Int).toNat +i+k+Int.toNat 0+f.At.Ag.length+f.At.Items.length+1) 0 (n+f.At.Items.length+f.At.Ag.length+f.At.Bd.Text.size) (by omega) (by omega) (by omega)
    rw [show ((0:Nat):Int)=(0:Int) from rfl] at q1
    rw [q1];simp only [cond_true,At.eta,Int.toNat_natCast];obtain ⟨n2,r1,r2,r3,r4⟩:=w18 g a limit d hl hd B hB P f.At i k ha2 hgI (a.length+limit+(d+1)+n1+i+k+Int.toNat 0+f.At.Ag.length+f.At.Items.length+1) 0 n1 (by omega) (by omega) (by omega)
    rw [show ((0:Nat):Int)=(0:Int) from rfl] at r1
    rw [r1];simp only [cond_true];rw [zV (by omega)]
    obtain ⟨n',h4,h5,h6,h7⟩:=w9 i hi hla hg fuel (k+1) n2 (by omega) (by omega) (by omega)
    refine ⟨n',h4,by omega,by omega,fun hn'=> ?_⟩
    obtain ⟨h8,h9⟩:=h7 hn';obtain ⟨q5,q6⟩:=q4 (by omega)
    obtain ⟨r5,r6⟩:=r4 (by omega)
    rw [List.drop_zero] at q5 q6 r5 r6;rw [zbG hk,zOo,hf,z35];refine ⟨fun y hy=> ?_,by omega⟩
    rcases qd.1 hy with rfl | hy
    ·exact ⟨⟨by omega,by omega,by omega⟩,q5,r5⟩
    ·exact h8 y hy
   ·simp only [Wy.ev_i,Wy.ev_k,Wy.ev_h,Wy.ev_bn,Wy.ev_d,tT,hi,hk,zCa,hn];exact ⟨n,rfl,Nat.le_refl _,by omega,fun h=>absurd h hn⟩
  ·simp only [Wy.ev_i,Wy.ev_k,Wy.ev_h,Wy.ev_bn,Wy.ev_d,tT,hi,hk];exact ⟨n,rfl,Nat.le_refl _,by omega,fun _=>by rw [zdd hk,z5W]; exact ⟨fun y hy=>(by cases hy),Nat.le_refl _⟩⟩
theorem w5 (hla:∀ t∈a,t.Fs.length≤zbk) (hg:∀ t∈a,∀ f∈t.Fs,f.At.Ag.length≤zbk∧f.At.Items.length≤zbk∧f.At.Bd.Text.size≤zbk∧(∀ y∈f.At.Ag,∀ l:Nat,l≤1000→∃ w:Nat,g y l d=(true,(w:Int))∧w≤B∧(w≤l→P y∧zes y≤w))∧
   ∀ y∈f.At.Items,y.Value.Text.size≤zbk∧∀ l:Nat,l≤1000→∃ w:Nat,g y.Ann l d=(true,(w:Int))∧w≤B∧(w≤l→P y.Ann∧zes y.Ann≤w)) (hlen:a.length≤zbk):
  ∀ (fuel i n:Nat),a.length<i+fuel→i≤a.length→n≤2305843009213693952→∃ n':Nat,zBL g fuel a limit (d+1:Nat) n i=(true,(n':Int))∧n≤n'∧n'≤max n (limit+6*zbk+B)∧
   (n'≤limit→(n+(a.length - i)≤n'∧n+zes (a.drop i)≤n')∧∀ t∈a.drop i,t.Fs.length≤1000∧∀ f∈t.Fs,(f.At.Ag.length≤1000∧f.At.Items.length≤1000∧f.At.Bd.Text.size≤1000)∧(∀ y∈f.At.Ag,P y)∧∀ y∈f.At.Items,y.Value.Text.size≤1000∧P y.Ann)
 | 0,i,n,h1,h2,h3=>by omega
 | fuel+1,i,n,h1,h2,h3=>by
  show ∃ n':Nat,(zB1 g a limit (d+1:Nat) n i).ev (fun x y=>zBL g fuel x.1 x.2.1 x.2.2.1 x.2.2.2.1 x.2.2.2.2.1) (fun r=>(true,r)) (false,default)=_∧_
  unfold zB1;have hml:zbk=140737488351232:=rfl;by_cases hi:i<a.length
  ·by_cases hn:n≤limit
   ·simp only [Wy.ev_i,Wy.ev_k,Wy.ev_h,Wy.ev_bn,Wy.ev_d,tT,hi,zCa,hn];have hla':=hla _ (zu hi)
    have e0:IntKind.i64.wrap (IntKind.i64.wrap ((n:Int)+1)+((a.getD i default).Fs.length:Int))=((n+1+(a.getD i default).Fs.length:Nat):Int):=by
     rw [zV (by omega),zjC (by omega) (by omega)]; omega
    rw [e0];obtain ⟨n1,q1,q2,q3,q4⟩:=w9 g a limit d hl hd B hB P i hi hla' (hg _ (zu hi)) (a.length+limit+(d+1)+((n+1+(a.getD i default).Fs.length:Nat):Int).toNat +i+Int.toNat 0+1) 0 (n+1+(a.getD i default).Fs.length) (by omega) (by omega) (by omega)
    rw [show ((0:Nat):Int)=(0:Int) from rfl] at q1
    rw [q1];simp only [cond_true];rw [zV (by omega)]
    obtain ⟨n',h4,h5,h6,h7⟩:=w5 hla hg hlen fuel (i+1) n1 (by omega) (by omega) (by omega)
    refine ⟨n',h4,by omega,by omega,fun hn'=> ?_⟩
    obtain ⟨⟨h8,h10⟩,h9⟩:=h7 hn';obtain ⟨q5,q6⟩:=q4 (by omega)
    rw [List.drop_zero] at q5 q6;rw [zbG hi,zPE];refine ⟨⟨by omega,by omega⟩,fun y hy=> ?_⟩
    rcases qd.1 hy with rfl | hy
    ·exact ⟨by omega,q5⟩
    ·exact h9 y hy
   ·simp only [Wy.ev_i,Wy.ev_k,Wy.ev_h,Wy.ev_bn,Wy.ev_d,tT,hi,zCa,hn];exact ⟨n,rfl,Nat.le_refl _,by omega,fun h=>absurd h hn⟩
  ·simp only [Wy.ev_i,Wy.ev_k,Wy.ev_h,Wy.ev_bn,Wy.ev_d,tT,hi];exact ⟨n,rfl,Nat.le_refl _,by omega,fun _=>by rw [zdd hi,zbcr]; exact ⟨⟨by omega,Nat.le_refl _⟩,fun y hy=>(by cases hy)⟩⟩
end
theorem z67:∀ (d N:Nat),d<N→d≤12→∀ (l:Nat),l≤1000→∀ a,zgA a→a.length≤zbk→∃ w:Nat,zp8 N a l d=(true,(w:Int))∧w≤(d+1)*4503599627370496∧(w≤l→zp d a∧zes a≤w)
 | _,0,h,_,_,_,_,_,_=>by omega
 | 0,N+1,_,_,l,hl,a,hw,hlen=>by
  rw [zJt];unfold zvp zCV;refine ⟨l+1, ?_,by omega,fun h=>by omega⟩
  simp only [Wy.fin_i,Wy.fin_k];rw [zV (by omega)]; rfl
 | d+1,N+1,hN,hd,l,hl,a,hw,hlen=>by
  rw [zJt];unfold zvp zCV;have hml:zbk=140737488351232:=rfl;have ih:=fun y (h1:zgA y) (h2:y.length≤zbk) l hl=>z67 d N (by omega) (by omega) l hl y h1 h2
  have e0:(((d+1:Nat):Int)==(0:Int))=false:=by
   rw [beq_eq_false_iff_ne]; omega
  obtain ⟨n',h1,h2,h3,h4⟩:=w5 (zp8 N) a l d hl (by omega) ((d+1)*4503599627370496) (by omega) (zp d) (fun t ht=>(zwY (ztX hw t ht)).2.2) (fun t ht f hf=>by
   have hx:=zpC (zru (zoA (zwY (ztX hw t ht)).2.1 f hf)).1;refine ⟨hx.1.2,hx.2.1.2,hx.2.2.1.2.2,fun y hy l hl=> ?_,fun y hy=> ?_⟩
   ·have:=zj1 hx.1.1 y hy;exact ih y this.1 this.2 l hl
   ·have:=zid hx.2.1.1 y hy;exact ⟨this.1.2.2,fun l hl=>ih y.Ann this.2.1 this.2.2 l hl⟩) hlen (a.length+l+(d+1)+Int.toNat 0+Int.toNat 0+1) 0 0 (by omega) (by omega) (by omega)
  rw [show ((0:Nat):Int)=(0:Int) from rfl] at h1
  refine ⟨n', ?_,by omega,fun hn=> ?_⟩
  ·simp only [Wy.fin_i,Wy.fin_k,Wy.fin_bn,e0,cond_false,Int.toNat_natCast,h1,cond_true]
  ·obtain ⟨⟨h5,h12⟩,h6⟩:=h4 hn;rw [List.drop_zero] at h12;refine ⟨⟨by omega,fun t ht=> ?_⟩,by omega⟩
   obtain ⟨h7,h8⟩:=h6 t (by simpa using ht)
   refine ⟨by omega,fun f hf=> ?_⟩
   obtain ⟨h9,h10,h11⟩:=h8 f hf;exact ⟨⟨by omega,by omega,by omega⟩,h10,fun w hw=>⟨by have:=(h11 w hw).1; omega,(h11 w hw).2⟩⟩
theorem z98 (limit:Nat) (hl:limit≤1000) (l:yA) (hll:l.length≤1000) (hw:∀ a∈l,zgA a∧a.length≤zbk):∀ (n i:Nat),l.length<i+n→i≤l.length→∃ r,zLS n limit l i=(true,r)∧((r=.inl false)∨(r=.inr ()∧∀ a∈l.drop i,zp 12 a∧zes a≤limit))
 | 0,i,h1,h2=>by omega
 | n+1,i,h1,h2=>by
  show ∃ r,(zL6 limit l i).ev (fun x y=>zLS n x.1 x.2.1 x.2.2.1) (fun r=>(true,r)) (false,.inl default)=(true,r)∧_
  unfold zL6;by_cases hi:i<l.length
  ·obtain ⟨w,q1,q2,q3⟩:=z67 12 1000 (by omega) (by omega) limit hl _ (hw _ (zu hi)).1 (hw _ (zu hi)).2
   have q1':zM8 (l.getD i default) (limit:Int) 12=(true,(w:Int)):=q1;simp only [Wy.ev_i,Wy.ev_k,Wy.ev_h,Wy.ev_bn,Wy.ev_d,tT,hi,q1',zrq];by_cases hg:limit<w
   ·simp only [hg,decide_true,cond_true];exact ⟨_,rfl,.inl rfl⟩
   ·simp only [hg,decide_false,cond_false];rw [zV (by omega)]
    obtain ⟨r,h3,h4⟩:=z98 limit hl l hll hw n (i+1) (by omega) (by omega)
    refine ⟨r,h3, ?_⟩;rcases h4 with h4 | ⟨h4,h5⟩
    ·exact .inl h4
    ·refine .inr ⟨h4,fun a ha=> ?_⟩
     rw [zbG hi] at ha;rcases qd.1 ha with rfl | ha
     ·exact ⟨(q3 (by omega)).1,by have:=(q3 (by omega)).2; omega⟩
     ·exact h5 a ha
  ·simp only [Wy.ev_i,Wy.ev_k,Wy.ev_h,Wy.ev_bn,Wy.ev_d,tT,hi];exact ⟨_,rfl,.inr ⟨rfl,fun a ha=>by rw [zdd hi] at ha; cases ha⟩⟩
theorem zbhr (limit:Nat) (hl:limit≤1000) (l:yA) (hll:l.length≤1000) (hw:∀ a∈l,zgA a∧a.length≤zbk):∃ b,zAJ limit l=(true,b)∧(b=true→∀ a∈l,zp 12 a∧zes a≤limit):=by
 unfold zAJ z03;obtain ⟨r,h1,h2⟩:=z98 limit hl l hll hw (limit+l.length+Int.toNat 0+1) 0 (by omega) (by omega)
 rw [show ((0:Nat):Int)=(0:Int) from rfl] at h1
 rw [Wy.fin_bn];simp only [Int.toNat_natCast,h1,cond_true];rcases h2 with rfl | ⟨rfl,h2⟩
 ·exact ⟨false,rfl,fun h=>by cases h⟩
 ·exact ⟨true,rfl,fun _ a ha=>h2 a (by simpa using ha)⟩
mutual
def zfd:At→Nat
 | ⟨_,_,a,_,i,_,_⟩=>zfa a+zdh i
def zbN:yD→Nat
 | []=>0
 | ⟨x,_⟩::r=>zfd x+zbN r
def zN:yC→Nat
 | []=>0
 | ⟨_,fs⟩::r=>1+fs.length+zbN fs+zN r
def zfa:yA→Nat
 | []=>0
 | a::r=>zN a+zfa r
def zdh:yE→Nat
 | []=>0
 | ⟨_,a⟩::r=>1+zN a+zdh r
end
theorem zhd (x:At):zfd x=zfa x.Ag+zdh x.Items:=by cases x; rw [zfd]
theorem zc9 (f:Fc) (r:yD):zbN (f::r)=zfd f.At+zbN r:=by cases f; rw [zbN]
theorem zet (t:Term) (r:yC):zN (t::r)=1+t.Fs.length+zbN t.Fs+zN r:=by cases t; rw [zN]
theorem zeY (a:yC) (r:yA):zfa (a::r)=zN a+zfa r:=by rw [zfa]
theorem zic (w:Wd) (r:yE):zdh (w::r)=1+zN w.Ann+zdh r:=by cases w; rw [zdh]
theorem zgF:zfa []=0:=by rw [zfa]
theorem zfG:zdh []=0:=by rw [zdh]
theorem ziF:zbN []=0:=by rw [zbN]
theorem zty:zN []=0:=by rw [zN]
theorem z3g (l:yA):∀ n:Nat,l.foldl (fun s t=>s+zN t) n=n+zfa l:=by
 induction l with
 | nil=>intro n; rw [zgF]; rfl
 | cons a r ih=>intro n; rw [List.foldl_cons,ih,zeY]; omega
theorem z1a (l:yE):∀ n:Nat,l.foldl (fun s t=>s+1+zN t.Ann) n=n+zdh l:=by
 induction l with
 | nil=>intro n; rw [zfG]; rfl
 | cons a r ih=>intro n; rw [List.foldl_cons,ih,zic]; omega
theorem z7U (l:yD):∀ n:Nat,l.foldl (fun s t=>s+zfd t.At) n=n+zbN l:=by
 induction l with
 | nil=>intro n; rw [ziF]; rfl
 | cons a r ih=>intro n; rw [List.foldl_cons,ih,zc9]; omega
theorem z6M (l:yC):∀ n:Nat,l.foldl (fun s t=>s+1+t.Fs.length+zbN t.Fs) n=n+zN l:=by
 induction l with
 | nil=>intro n; rw [zty]; rfl
 | cons a r ih=>intro n; rw [List.foldl_cons,ih,zet]; omega
theorem zox {n m:Nat} (h:n+m≤4611686018427387904):IntKind.i64.wrap ((n:Int)+(m:Int))=((n+m:Nat):Int):=by
 rw [zZo (by omega) (by omega)]; omega
theorem zgK {i:Nat} (h:i<4611686018427387904):IntKind.i64.wrap ((i:Int)+1)=((i+1:Nat):Int):=zV h
section
variable (g:yC→Bool×Int)
theorem zbge (l:yA) (hl:l.length≤1000000) (hg:∀ y∈l,g y=(true,(zN y:Int))) (t12:yC) (t13 t14:Int) (t25:yD) (t26 t27:Int) (f:Fc) (fuel n:Nat) (hf:l.length<fuel) (hn:n+zfa l≤4611686018427387904):
  zDA g fuel n t12 t13 t14 t25 t26 t27 l l.length 0 f=(true,(((n+zfa l:Nat):Int),t12,t13,t14,t25,t26,t27,f)):=by
 have h:=zc2 (W:=zv1 g) (z:=default) (l:=l) (fun i (n:Nat)=>((n:Int),(),t12,t13,t14,t25,t26,t27,l,(l.length:Int),(i:Int),())) (fun _ _=>(f,())) (fun y n=>.inl (n+zN y)) (fun n=>((n:Int),t12,t13,t14,t25,t26,t27,f)) (fun i n=>n+zfa (l.drop i)≤4611686018427387904)
  (fun i n hi hI=>.inl ⟨_,rfl,by rw [zbG hi,zeY] at hI; omega,fun H K D=>by
   rw [zbG hi,zeY] at hI;show (zkA g n t12 t13 t14 t25 t26 t27 l l.length i f).ev H K D=_;unfold zkA;simp only [Wy.ev_i,Wy.ev_k,Wy.ev_h,Wy.ev_bn,Wy.ev_d,tT,hi,hg _ (zu hi)];rw [zox (by omega),zgK (by omega)]⟩)
  (fun n hI H K D=>by
   show (zkA g n t12 t13 t14 t25 t26 t27 l l.length l.length f).ev H K D=_;unfold zkA;simp only [Wy.ev_i,Wy.ev_k,tT,Nat.lt_irrefl]) fuel 0 n (by omega) (Nat.zero_le _) (by simpa using hn)
 rw [List.drop_zero,zc3,z3g] at h;exact h
theorem zbgy (l:yE) (hl:l.length≤1000000) (hg:∀ y∈l,g y.Ann=(true,(zN y.Ann:Int))) (t12:yC) (t13 t14:Int) (t25:yD) (t26 t27:Int) (fuel n:Nat) (hf:l.length<fuel) (hn:n+zdh l≤4611686018427387904):
  zDp g fuel n t12 t13 t14 t25 t26 t27 l l.length 0=(true,(((n+zdh l:Nat):Int),t12,t13,t14,t25,t26,t27)):=by
 have h:=zc2 (W:=zvK g) (z:=default) (l:=l) (fun i (n:Nat)=>((n:Int),t12,t13,t14,t25,t26,t27,l,(l.length:Int),(i:Int),())) (fun _ _=>()) (fun y n=>.inl (n+1+zN y.Ann)) (fun n=>((n:Int),t12,t13,t14,t25,t26,t27)) (fun i n=>n+zdh (l.drop i)≤4611686018427387904)
  (fun i n hi hI=>.inl ⟨_,rfl,by rw [zbG hi,zic] at hI; omega,fun H K D=>by
   rw [zbG hi,zic] at hI;show (zkw g n t12 t13 t14 t25 t26 t27 l l.length i).ev H K D=_;unfold zkw;simp only [Wy.ev_i,Wy.ev_k,Wy.ev_h,Wy.ev_bn,Wy.ev_d,tT,hi,hg _ (zu hi)];rw [zgK (by omega),show (1:Int)=((1:Nat):Int) from rfl,zox (by omega),zox (by omega), ← Nat.add_assoc]⟩)
  (fun n hI H K D=>by
   show (zkw g n t12 t13 t14 t25 t26 t27 l l.length l.length).ev H K D=_;unfold zkw;simp only [Wy.ev_i,Wy.ev_k,tT,Nat.lt_irrefl]) fuel 0 n (by omega) (Nat.zero_le _) (by simpa using hn)
 rw [List.drop_zero,zc3,z1a] at h;exact h
theorem zbhb (l:yD) (hl:l.length≤1000000) (hg:∀ f∈l,(f.At.Ag.length≤1000000∧f.At.Items.length≤1000000)∧(∀ y∈f.At.Ag,g y=(true,(zN y:Int)))∧∀ y∈f.At.Items,g y.Ann=(true,(zN y.Ann:Int))) (t12:yC) (t13 t14:Int) (fuel n:Nat) (hf:l.length<fuel) (hn:n+zbN l≤4611686018427387904):
  zEm g fuel n t12 t13 t14 l l.length 0=(true,(((n+zbN l:Nat):Int),t12,t13,t14)):=by
 have h:=zc2 (W:=zxe g) (z:=default) (l:=l) (fun i (n:Nat)=>((n:Int),t12,t13,t14,l,(l.length:Int),(i:Int),())) (fun _ _=>()) (fun y n=>.inl (n+zfd y.At)) (fun n=>((n:Int),t12,t13,t14)) (fun i n=>n+zbN (l.drop i)≤4611686018427387904)
  (fun i n hi hI=>.inl ⟨_,rfl,by rw [zbG hi,zc9] at hI; omega,fun H K D=>by
   rw [zbG hi,zc9,zhd] at hI;obtain ⟨⟨h1,h2⟩,h3,h4⟩:=hg _ (zu hi);show (zlq g n t12 t13 t14 l l.length i).ev H K D=_;unfold zlq;simp only [Wy.ev_i,Wy.ev_k,Wy.ev_h,Wy.ev_bn,Wy.ev_d,tT,hi,At.eta];rw [zbge g _ h1 h3 _ _ _ _ _ _ _ _ _ (by omega) (by omega)]
   simp only [cond_true,Int.toNat_natCast];rw [zbgy g _ h2 h4 _ _ _ _ _ _ _ _ (by omega) (by omega)]
   simp only [cond_true];rw [zgK (by omega),zhd,Nat.add_assoc]⟩)
  (fun n hI H K D=>by
   show (zlq g n t12 t13 t14 l l.length l.length).ev H K D=_;unfold zlq;simp only [Wy.ev_i,Wy.ev_k,tT,Nat.lt_irrefl]) fuel 0 n (by omega) (Nat.zero_le _) (by simpa using hn)
 rw [List.drop_zero,zc3,z7U] at h;exact h
theorem zbhx (l:yC) (hl:l.length≤1000000) (hg:∀ t∈l,t.Fs.length≤1000000∧∀ f∈t.Fs,(f.At.Ag.length≤1000000∧f.At.Items.length≤1000000)∧(∀ y∈f.At.Ag,g y=(true,(zN y:Int)))∧∀ y∈f.At.Items,g y.Ann=(true,(zN y.Ann:Int))) (fuel n:Nat) (hf:l.length<fuel) (hn:n+zN l≤4611686018427387904):
  zEN g fuel n l l.length 0=(true,((n+zN l:Nat):Int)):=by
 have h:=zc2 (W:=zxf g) (z:=default) (l:=l) (fun i (n:Nat)=>((n:Int),l,(l.length:Int),(i:Int),())) (fun _ _=>()) (fun y n=>.inl (n+1+y.Fs.length+zbN y.Fs)) (fun n=>(n:Int)) (fun i n=>n+zN (l.drop i)≤4611686018427387904)
  (fun i n hi hI=>.inl ⟨_,rfl,by rw [zbG hi,zet] at hI; omega,fun H K D=>by
   rw [zbG hi,zet] at hI;obtain ⟨h1,h3⟩:=hg _ (zu hi);show (zlk g n l l.length i).ev H K D=_;unfold zlk;simp only [Wy.ev_i,Wy.ev_k,Wy.ev_h,Wy.ev_bn,Wy.ev_d,tT,hi,At.eta];rw [show (1:Int)=((1:Nat):Int) from rfl,zox (n:=1) (by omega),zox (by omega)]
   rw [zbhb g _ h1 h3 _ _ _ _ _ (by omega) (by omega)]
   simp only [cond_true];rw [show ((1:Nat):Int)=(1:Int) from rfl,zgK (by omega),Nat.add_assoc n 1]⟩)
  (fun n hI H K D=>by
   show (zlk g n l l.length l.length).ev H K D=_;unfold zlk;simp only [Wy.ev_i,Wy.ev_k,tT,Nat.lt_irrefl]) fuel 0 n (by omega) (Nat.zero_le _) (by simpa using hn)
 rw [List.drop_zero,zc3,z6M] at h;exact h
theorem zbe2 (x:At) (hl:x.Ag.length≤1000000) (hg:∀ y∈x.Ag,g y=(true,(zN y:Int))) (a:yC) (i k:Int) (fuel n:Nat) (hf:x.Ag.length<fuel) (hn:n+zfa x.Ag≤4611686018427387904):
  zNc g fuel a n i k 0 x=(true,(a,((n+zfa x.Ag:Nat):Int),i,k,x)):=by
 have h:=zc2 (W:=zCP g) (z:=default) (l:=x.Ag) (fun j (n:Nat)=>(a,(n:Int),i,k,(),(j:Int),())) (fun _ _=>(x,())) (fun y n=>.inl (n+zN y)) (fun n=>(a,(n:Int),i,k,x)) (fun i n=>n+zfa (x.Ag.drop i)≤4611686018427387904)
  (fun j n hi hI=>.inl ⟨_,rfl,by rw [zbG hi,zeY] at hI; omega,fun H K D=>by
   rw [zbG hi,zeY] at hI;show (zqF g a n i k j x).ev H K D=_;unfold zqF;simp only [Wy.ev_i,Wy.ev_k,Wy.ev_h,Wy.ev_bn,Wy.ev_d,tT,hi,hg _ (zu hi)];rw [zox (by omega),zgK (by omega)]⟩)
  (fun n hI H K D=>by
   show (zqF g a n i k x.Ag.length x).ev H K D=_;unfold zqF;simp only [Wy.ev_i,Wy.ev_k,tT,Nat.lt_irrefl]) fuel 0 n (by omega) (Nat.zero_le _) (by simpa using hn)
 rw [List.drop_zero,zc3,z3g] at h;exact h
theorem zbef (x:At) (hl:x.Items.length≤1000000) (hg:∀ y∈x.Items,g y.Ann=(true,(zN y.Ann:Int))) (a:yC) (i k:Int) (fuel n:Nat) (hf:x.Items.length<fuel) (hn:n+zdh x.Items≤4611686018427387904):
  zMQ g fuel a n i k 0 x=(true,(a,((n+zdh x.Items:Nat):Int),i,k)):=by
 have h:=zc2 (W:=zCM g) (z:=default) (l:=x.Items) (fun j (n:Nat)=>(a,(n:Int),i,k,(),(j:Int),())) (fun _ _=>(x,())) (fun y n=>.inl (n+1+zN y.Ann)) (fun n=>(a,(n:Int),i,k)) (fun i n=>n+zdh (x.Items.drop i)≤4611686018427387904)
  (fun j n hi hI=>.inl ⟨_,rfl,by rw [zbG hi,zic] at hI; omega,fun H K D=>by
   rw [zbG hi,zic] at hI;show (zrg g a n i k j x).ev H K D=_;unfold zrg;simp only [Wy.ev_i,Wy.ev_k,Wy.ev_h,Wy.ev_bn,Wy.ev_d,tT,hi,hg _ (zu hi)];rw [zgK (i:=j) (by omega),zgK (i:=n) (by omega),zox (by omega)]⟩)
  (fun n hI H K D=>by
   show (zrg g a n i k x.Items.length x).ev H K D=_;unfold zrg;simp only [Wy.ev_i,Wy.ev_k,tT,Nat.lt_irrefl]) fuel 0 n (by omega) (Nat.zero_le _) (by simpa using hn)
 rw [List.drop_zero,zc3,z1a] at h;exact h
theorem zLR:∀ (a:yC) (i:Nat),i<a.length→(a.getD i default).Fs.length≤zb2 a
 | [],i,h=>by simp at h
 | t::r,0,h=>by
  have:∀ l:yD,l.length≤zIq l:=fun l=>by
   induction l with
   | nil=>exact Nat.le_refl _
   | cons f r ih=>simp only [zIq,qf]; omega
  have:=this t.Fs;simp only [zb2,List.getD_cons_zero]; omega
 | t::r,i+1,h=>by
  have:=zLR r i (by simpa using h)
  simp only [zb2,List.getD_cons_succ]; omega
theorem foldl_factors' (l:yD):∀ n:Nat,l.foldl (fun s t=>s+1+zfd t.At) n=n+l.length+zbN l:=by
 induction l with
 | nil=>intro n; rw [ziF]; rfl
 | cons a r ih=>intro n; rw [List.foldl_cons,ih,zc9,qf]; omega
theorem zbf9 (a:yC) (i:Nat) (hi:i<a.length) (hla:a.length≤1000000) (l:yD) (el:(a.getD i default).Fs=l) (hl:l.length≤1000000) (hg:∀ f∈l,(f.At.Ag.length≤1000000∧f.At.Items.length≤1000000)∧(∀ y∈f.At.Ag,g y=(true,(zN y:Int)))∧∀ y∈f.At.Items,g y.Ann=(true,(zN y.Ann:Int))) (fuel n:Nat) (hf:l.length<fuel) (hn:n+l.length+zbN l≤4611686018427387904):
  zOl g fuel a n i 0=(true,(a,((n+l.length+zbN l:Nat):Int),(i:Int))):=by
 have h:=zc2 (W:=zEv g) (z:=default) (l:=l) (fun k (n:Nat)=>(a,(n:Int),(i:Int),(k:Int),())) (fun _ _=>()) (fun y n=>.inl (n+1+zfd y.At)) (fun n=>(a,(n:Int),(i:Int))) (fun k n=>n+(l.drop k).length+zbN (l.drop k)≤4611686018427387904)
  (fun k n hk hI=>.inl ⟨_,rfl,by rw [zbG hk,zc9,qf] at hI; omega,fun H K D=>by
   rw [zbG hk,zc9,zhd,qf] at hI;obtain ⟨⟨h1,h2⟩,h3,h4⟩:=hg _ (zu hk);show (ztS g a n i k).ev H K D=_;unfold ztS;simp only [Wy.ev_i,Wy.ev_k,Wy.ev_h,Wy.ev_bn,Wy.ev_d,tT,hi,el,hk,At.eta];rw [zgK (i:=n) (by omega)]
   rw [zbe2 g _ h1 h3 _ _ _ _ _ (by omega) (by omega)]
   simp only [cond_true,Int.toNat_natCast,At.eta];rw [zbef g _ h2 h4 _ _ _ _ _ (by omega) (by omega)]
   simp only [cond_true];rw [zgK (by omega),zhd,Nat.add_assoc (n+1)]⟩)
  (fun n hI H K D=>by
   show (ztS g a n i l.length).ev H K D=_;unfold ztS;simp only [Wy.ev_i,Wy.ev_k,tT,hi,el,Nat.lt_irrefl]) fuel 0 n (by omega) (Nat.zero_le _) (by simpa using hn)
 rw [List.drop_zero,zc3,foldl_factors'] at h;exact h
theorem zbgf (l:yC) (hl:l.length≤1000000) (hg:∀ t∈l,t.Fs.length≤1000000∧∀ f∈t.Fs,(f.At.Ag.length≤1000000∧f.At.Items.length≤1000000)∧(∀ y∈f.At.Ag,g y=(true,(zN y:Int)))∧∀ y∈f.At.Items,g y.Ann=(true,(zN y.Ann:Int))) (fuel n:Nat) (hf:l.length<fuel) (hn:n+zN l≤4611686018427387904):
  zOf g fuel l n 0=(true,((n+zN l:Nat):Int)):=by
 have h:=zc2 (W:=zEs g) (z:=default) (l:=l) (fun i (n:Nat)=>(l,(n:Int),(i:Int),())) (fun _ _=>()) (fun y n=>.inl (n+1+y.Fs.length+zbN y.Fs)) (fun n=>(n:Int)) (fun i n=>n+zN (l.drop i)≤4611686018427387904)
  (fun i n hi hI=>.inl ⟨_,rfl,by rw [zbG hi,zet] at hI; omega,fun H K D=>by
   rw [zbG hi,zet] at hI;obtain ⟨h1,h3⟩:=hg _ (zu hi);have hz:=zLR l i hi;show (ztg g l n i).ev H K D=_;unfold ztg;simp only [Wy.ev_i,Wy.ev_k,Wy.ev_h,Wy.ev_bn,Wy.ev_d,tT,hi,At.eta];rw [zgK (i:=n) (by omega)]
   rw [zbf9 g l i hi hl _ rfl h1 h3 _ _ (by omega) (by omega)]
   simp only [cond_true];rw [zgK (by omega)]⟩)
  (fun n hI H K D=>by
   show (ztg g l n l.length).ev H K D=_;unfold ztg;simp only [Wy.ev_i,Wy.ev_k,tT,Nat.lt_irrefl]) fuel 0 n (by omega) (Nat.zero_le _) (by simpa using hn)
 rw [List.drop_zero,zc3,z6M] at h;exact h
end
theorem zbaL {l:yA} {y:yC} (h:y∈l):zN y≤zfa l:=by
 induction l with
 | nil=>cases h
 | cons a r ih=>
  rw [zeY];rcases qd.1 h with rfl | h
  ·omega
  ·have:=ih h; omega
theorem z9m {l:yE} {y:Wd} (h:y∈l):zN y.Ann≤zdh l:=by
 induction l with
 | nil=>cases h
 | cons a r ih=>
  rw [zic];rcases qd.1 h with rfl | h
  ·omega
  ·have:=ih h; omega
theorem zQx {l:yD} {y:Fc} (h:y∈l):zfd y.At≤zbN l:=by
 induction l with
 | nil=>cases h
 | cons a r ih=>
  rw [zc9];rcases qd.1 h with rfl | h
  ·omega
  ·have:=ih h; omega
theorem zbcF {l:yC} {y:Term} (h:y∈l):zbN y.Fs≤zN l:=by
 induction l with
 | nil=>cases h
 | cons a r ih=>
  rw [zet];rcases qd.1 h with rfl | h
  ·omega
  ·have:=ih h; omega
theorem z47 {a:yC} {t:Term} {f:Fc} (ht:t∈a) (hf:f∈t.Fs):zfa f.At.Ag+zdh f.At.Items≤zN a:=by
 have h1:=zbcF ht; have h2:=zQx hf; rw [zhd] at h2; omega
theorem zQo {d:Nat} {a:yC} (h:zp (d+1) a) {t:Term} (ht:t∈a):t.Fs.length≤1000000∧∀ f∈t.Fs,(f.At.Ag.length≤1000000∧f.At.Items.length≤1000000)∧(∀ y∈f.At.Ag,zp d y)∧∀ y∈f.At.Items,zp d y.Ann:=
 ⟨(h.2 t ht).1,fun f hf=>have q:=(h.2 t ht).2 f hf; ⟨⟨q.1.1,q.1.2.1⟩,q.2.1,fun y hy=>(q.2.2 y hy).2⟩⟩
theorem z19:∀ (n d:Nat) (a:yC),zp d a→d≤n→zN a≤4611686018427387904→zlJ n a=(true,(zN a:Int))∧zv5 n a=(true,(zN a:Int))
 | n,0,a,h,hd,hs=>h.elim
 | 0,d+1,a,h,hd,hs=>by omega
 | n+1,d+1,a,h,hd,hs=>by
  have hg:=fun y (hy:zp d y) (hs:zN y≤4611686018427387904)=>z19 n d y hy (by omega) hs
  have hsub:∀ t∈a,t.Fs.length≤1000000∧∀ f∈t.Fs,(f.At.Ag.length≤1000000∧f.At.Items.length≤1000000)∧(∀ y∈f.At.Ag,zp d y∧zN y≤4611686018427387904)∧∀ y∈f.At.Items,zp d y.Ann∧zN y.Ann≤4611686018427387904:=fun t ht=>by
   obtain ⟨h1,h2⟩:=zQo h ht;refine ⟨h1,fun f hf=> ?_⟩
   obtain ⟨h3,h4,h5⟩:=h2 f hf;have h6:=z47 ht hf;exact ⟨h3,fun y hy=>⟨h4 y hy,by have:=zbaL hy; omega⟩,fun y hy=>⟨h5 y hy,by have:=z9m hy; omega⟩⟩
  constructor
  ·rw [zSW];unfold zuW zFA
   have h1:=zbhx (zlJ n) a h.1 (fun t ht=>⟨(hsub t ht).1,fun f hf=>⟨((hsub t ht).2 f hf).1,fun y hy=>(hg y (((hsub t ht).2 f hf).2.1 y hy).1 (((hsub t ht).2 f hf).2.1 y hy).2).1,fun y hy=>(hg _ (((hsub t ht).2 f hf).2.2 y hy).1 (((hsub t ht).2 f hf).2.2 y hy).2).1⟩⟩)
    (Int.toNat 0+a.length+(Int.ofNat a.length).toNat +Int.toNat 0+1) 0 (by omega) (by omega)
   rw [show ((0:Nat):Int)=(0:Int) from rfl,Nat.zero_add] at h1
   rw [Wy.fin_bn,show Int.ofNat a.length=(a.length:Int) from rfl] at *
   rw [h1]; rfl
  ·rw [z3w];unfold zE3 zQy
   have h1:=zbgf (zv5 n) a h.1 (fun t ht=>⟨(hsub t ht).1,fun f hf=>⟨((hsub t ht).2 f hf).1,fun y hy=>(hg y (((hsub t ht).2 f hf).2.1 y hy).1 (((hsub t ht).2 f hf).2.1 y hy).2).2,fun y hy=>(hg _ (((hsub t ht).2 f hf).2.2 y hy).1 (((hsub t ht).2 f hf).2.2 y hy).2).2⟩⟩)
    (a.length+Int.toNat 0+Int.toNat 0+1+zb2 a) 0 (by omega) (by omega)
   rw [show ((0:Nat):Int)=(0:Int) from rfl,Nat.zero_add] at h1
   rw [Wy.fin_bn,h1]; rfl
mutual
def zn5:At→Nat
 | ⟨k,_,a,_,i,_,_⟩=>if k=0 then 0 else 1+max (zmO a) (zk0 i)
def zdl:yD→Nat
 | []=>0
 | ⟨x,_⟩::r=>max (zn5 x) (zdl r)
def zbs:yC→Nat
 | []=>0
 | ⟨_,fs⟩::r=>max (zdl fs) (zbs r)
def zmO:yA→Nat
 | []=>0
 | a::r=>max (zbs a) (zmO r)
def zk0:yE→Nat
 | []=>0
 | ⟨_,a⟩::r=>max (zbs a) (zk0 r)
end
theorem zEp (x:At):zn5 x=if x.Kind=0 then 0 else 1+max (zmO x.Ag) (zk0 x.Items):=by cases x; rw [zn5]
theorem zjj (f:Fc) (r:yD):zdl (f::r)=max (zn5 f.At) (zdl r):=by cases f; rw [zdl]
theorem zmT (t:Term) (r:yC):zbs (t::r)=max (zdl t.Fs) (zbs r):=by cases t; rw [zbs]
theorem zEw (a:yC) (r:yA):zmO (a::r)=max (zbs a) (zmO r):=by rw [zmO]
theorem zCx (w:Wd) (r:yE):zk0 (w::r)=max (zbs w.Ann) (zk0 r):=by cases w; rw [zk0]
theorem zP4:zmO []=0:=by rw [zmO]
theorem zMr:zk0 []=0:=by rw [zk0]
theorem zqk:zdl []=0:=by rw [zdl]
theorem zEC:zbs []=0:=by rw [zbs]
theorem zbcS (l:yA):∀ n:Nat,l.foldl (fun s t=>max s (zbs t)) n=max n (zmO l):=by
 induction l with
 | nil=>intro n; rw [zP4]; exact (Nat.max_zero n).symm
 | cons a r ih=>intro n; rw [List.foldl_cons,ih,zEw]; omega
theorem zbaC (l:yE):∀ n:Nat,l.foldl (fun s t=>max s (zbs t.Ann)) n=max n (zk0 l):=by
 induction l with
 | nil=>intro n; rw [zMr]; exact (Nat.max_zero n).symm
 | cons a r ih=>intro n; rw [List.foldl_cons,ih,zCx]; omega
theorem zbaR (l:yA):∀ n:Nat,l.foldl (fun s t=>max s (1+zbs t)) (1+n)=1+max n (zmO l):=by
 induction l with
 | nil=>intro n; rw [zP4]; simp
 | cons a r ih=>intro n; rw [List.foldl_cons,show max (1+n) (1+zbs a)=1+max n (zbs a) by omega,ih,zEw]; omega
theorem z9P (l:yE):∀ n:Nat,l.foldl (fun s t=>max s (1+zbs t.Ann)) (1+n)=1+max n (zk0 l):=by
 induction l with
 | nil=>intro n; rw [zMr]; simp
 | cons a r ih=>intro n; rw [List.foldl_cons,show max (1+n) (1+zbs a.Ann)=1+max n (zbs a.Ann) by omega,ih,zCx]; omega
theorem zUy (l:yD):∀ n:Nat,l.foldl (fun s t=>max s (zn5 t.At)) n=max n (zdl l):=by
 induction l with
 | nil=>intro n; rw [zqk]; exact (Nat.max_zero n).symm
 | cons a r ih=>intro n; rw [List.foldl_cons,ih,zjj]; omega
theorem z6L (l:yC):∀ n:Nat,l.foldl (fun s t=>max s (zdl t.Fs)) n=max n (zbs l):=by
 induction l with
 | nil=>intro n; rw [zEC]; exact (Nat.max_zero n).symm
 | cons a r ih=>intro n; rw [List.foldl_cons,ih,zmT]; omega
theorem zY7 (a b:Nat):(if (a:Int)>(b:Int) then (a:Int) else (b:Int))=((max b a:Nat):Int):=by split <;>omega
theorem z3M {d:Nat}:∀ l:yA,(∀ y∈l,zbs y≤d)→zmO l≤d:=fun l=>by
 induction l with
 | nil=>intro _; rw [zP4]; omega
 | cons y r ih=>intro hy; rw [zEw]; have h1:=hy y (by simp); have h2:=ih fun z hz=>hy z (by simp [hz]); omega
theorem z1i {d:Nat}:∀ l:yE,(∀ y∈l,zbs y.Ann≤d)→zk0 l≤d:=fun l=>by
 induction l with
 | nil=>intro _; rw [zMr]; omega
 | cons y r ih=>intro hy; rw [zCx]; have h1:=hy y (by simp); have h2:=ih fun z hz=>hy z (by simp [hz]); omega
theorem z7H {d:Nat}:∀ l:yD,(∀ y∈l,zn5 y.At≤d)→zdl l≤d:=fun l=>by
 induction l with
 | nil=>intro _; rw [zqk]; omega
 | cons y r ih=>intro hy; rw [zjj]; have h1:=hy y (by simp); have h2:=ih fun z hz=>hy z (by simp [hz]); omega
theorem zbdm {d:Nat}:∀ l:yC,(∀ y∈l,zdl y.Fs≤d)→zbs l≤d:=fun l=>by
 induction l with
 | nil=>intro _; rw [zEC]; omega
 | cons y r ih=>intro hy; rw [zmT]; have h1:=hy y (by simp); have h2:=ih fun z hz=>hy z (by simp [hz]); omega
theorem zS7:∀ (d:Nat) (a:yC),zp d a→zbs a≤d
 | 0,a,h=>h.elim
 | d+1,a,h=>zbdm a fun t ht=>z7H _ fun f hf=>by
  obtain ⟨_,h2⟩:=zQo h ht;obtain ⟨_,h4,h5⟩:=h2 f hf;have q1:=z3M f.At.Ag fun y hy=>zS7 d y (h4 y hy)
  have q2:=z1i f.At.Items fun y hy=>zS7 d y.Ann (h5 y hy)
  rw [zEp]; split <;>omega
section
variable (g:yC→Bool×Int)
theorem zbhp (l:yA) (hl:l.length≤1000000) (hg:∀ y∈l,g y=(true,(zbs y:Int))) (nn:Int) (t13:yC) (t14 t15:Int) (t20:yD) (t21 t22:Int) (f:Fc) (fuel n:Nat) (hf:l.length<fuel):
  zAy g fuel nn n t13 t14 t15 t20 t21 t22 l l.length 0 f=(true,(nn,((max n (zmO l):Nat):Int),t13,t14,t15,t20,t21,t22,f)):=by
 have h:=zc2 (W:=zrp g) (z:=default) (l:=l) (fun i (n:Nat)=>(nn,(),(n:Int),t13,t14,t15,t20,t21,t22,l,(l.length:Int),(i:Int),())) (fun _ _=>(f,())) (fun y n=>.inl (max n (zbs y))) (fun n=>(nn,(n:Int),t13,t14,t15,t20,t21,t22,f)) (fun i n=>True)
  (fun i n hi hI=>.inl ⟨_,rfl,trivial,fun H K D=>by
   show (zhX g nn n t13 t14 t15 t20 t21 t22 l l.length i f).ev H K D=_;unfold zhX;simp only [Wy.ev_i,Wy.ev_k,Wy.ev_h,Wy.ev_bn,Wy.ev_d,tT,hi,hg _ (zu hi),zY7];rw [zgK (by omega)]⟩)
  (fun n hI H K D=>by
   show (zhX g nn n t13 t14 t15 t20 t21 t22 l l.length l.length f).ev H K D=_;unfold zhX;simp only [Wy.ev_i,Wy.ev_k,tT,Nat.lt_irrefl]) fuel 0 n (by omega) (Nat.zero_le _) trivial
 rw [List.drop_zero,zc3,zbcS] at h;exact h
theorem zbhF (l:yE) (hl:l.length≤1000000) (hg:∀ y∈l,g y.Ann=(true,(zbs y.Ann:Int))) (nn:Int) (t13:yC) (t14 t15:Int) (t20:yD) (t21 t22:Int) (fuel n:Nat) (hf:l.length<fuel):
  zzL g fuel nn n t13 t14 t15 t20 t21 t22 l l.length 0=(true,(nn,((max n (zk0 l):Nat):Int),t13,t14,t15,t20,t21,t22)):=by
 have h:=zc2 (W:=zq5 g) (z:=default) (l:=l) (fun i (n:Nat)=>(nn,(n:Int),t13,t14,t15,t20,t21,t22,l,(l.length:Int),(i:Int),())) (fun _ _=>()) (fun y n=>.inl (max n (zbs y.Ann))) (fun n=>(nn,(n:Int),t13,t14,t15,t20,t21,t22)) (fun i n=>True)
  (fun i n hi hI=>.inl ⟨_,rfl,trivial,fun H K D=>by
   show (zib g nn n t13 t14 t15 t20 t21 t22 l l.length i).ev H K D=_;unfold zib;simp only [Wy.ev_i,Wy.ev_k,Wy.ev_h,Wy.ev_bn,Wy.ev_d,tT,hi,hg _ (zu hi),zY7];rw [zgK (by omega)]⟩)
  (fun n hI H K D=>by
   show (zib g nn n t13 t14 t15 t20 t21 t22 l l.length l.length).ev H K D=_;unfold zib;simp only [Wy.ev_i,Wy.ev_k,tT,Nat.lt_irrefl]) fuel 0 n (by omega) (Nat.zero_le _) trivial
 rw [List.drop_zero,zc3,zbaC] at h;exact h
def zUi (x:At):Prop:=(x.Ag.length≤1000000∧x.Items.length≤1000000)∧(zn5 x≤1000∧(∀ y∈x.Ag,zbs y≤1000)∧∀ y∈x.Items,zbs y.Ann≤1000)∧(∀ y∈x.Ag,g y=(true,(zbs y:Int)))∧∀ y∈x.Items,g y.Ann=(true,(zbs y.Ann:Int))
theorem zbie (l:yD) (hl:l.length≤1000000) (hg:∀ f∈l,zUi g f.At) (t13:yC) (t14 t15:Int) (fuel n:Nat) (hf:l.length<fuel):
  zBq g fuel n t13 t14 t15 l l.length 0=(true,(((max n (zdl l):Nat):Int),t13,t14,t15)):=by
 have h:=zc2 (W:=zsj g) (z:=default) (l:=l) (fun i (n:Nat)=>((n:Int),t13,t14,t15,l,(l.length:Int),(i:Int),())) (fun _ _=>()) (fun y n=>.inl (max n (zn5 y.At))) (fun n=>((n:Int),t13,t14,t15)) (fun i n=>True)
  (fun i n hi hI=>.inl ⟨_,rfl,trivial,fun H K D=>by
   obtain ⟨⟨h1,h2⟩,⟨h5,_,_⟩,h3,h4⟩:=hg _ (zu hi);show (ziQ g n t13 t14 t15 l l.length i).ev H K D=_;unfold ziQ;simp only [Wy.ev_i,Wy.ev_k,Wy.ev_h,Wy.ev_bn,Wy.ev_d,tT,hi,At.eta];generalize l.getD i default=f at *;rw [zEp] at h5 ⊢;by_cases hk:f.At.Kind=0
   ·have e:(f.At.Kind==0)=true:=by simp [hk]
    simp only [e,cond_true];rw [if_pos hk,Nat.max_zero,zgK (by omega)]
   ·have e:(f.At.Kind==0)=false:=by simp [hk]
    simp only [e,cond_false];rw [if_neg hk] at h5 ⊢;have q:=fun fuel hf=>zbhp g _ h1 h3 n t13 t14 t15 l l.length i f fuel 0 hf
    rw [Nat.zero_max,show ((0:Nat):Int)=(0:Int) from rfl] at q
    rw [q _ (by omega)]
    simp only [cond_true,Int.toNat_natCast];rw [zbhF g _ h2 h4 n t13 t14 t15 l l.length i _ _ (by omega)]
    simp only [cond_true];rw [zgK (by omega),show (1:Int)=((1:Nat):Int) from rfl,zox (n:=1) (by omega),zY7]⟩)
  (fun n hI H K D=>by
   show (ziQ g n t13 t14 t15 l l.length l.length).ev H K D=_;unfold ziQ;simp only [Wy.ev_i,Wy.ev_k,tT,Nat.lt_irrefl]) fuel 0 n (by omega) (Nat.zero_le _) trivial
 rw [List.drop_zero,zc3,zUy] at h;exact h
theorem zbim (l:yC) (hl:l.length≤1000000) (hg:∀ t∈l,t.Fs.length≤1000000∧∀ f∈t.Fs,zUi g f.At) (fuel n:Nat) (hf:l.length<fuel):
  zBj g fuel n l l.length 0=(true,((max n (zbs l):Nat):Int)):=by
 have h:=zc2 (W:=zs2 g) (z:=default) (l:=l) (fun i (n:Nat)=>((n:Int),l,(l.length:Int),(i:Int),())) (fun _ _=>()) (fun y n=>.inl (max n (zdl y.Fs))) (fun n=>(n:Int)) (fun i n=>True)
  (fun i n hi hI=>.inl ⟨_,rfl,trivial,fun H K D=>by
   obtain ⟨h1,h3⟩:=hg _ (zu hi);show (zja g n l l.length i).ev H K D=_;unfold zja;simp only [Wy.ev_i,Wy.ev_k,Wy.ev_h,Wy.ev_bn,Wy.ev_d,tT,hi,At.eta];rw [zbie g _ h1 h3 _ _ _ _ _ (by omega)]
   simp only [cond_true];rw [zgK (by omega)]⟩)
  (fun n hI H K D=>by
   show (zja g n l l.length l.length).ev H K D=_;unfold zja;simp only [Wy.ev_i,Wy.ev_k,tT,Nat.lt_irrefl]) fuel 0 n (by omega) (Nat.zero_le _) trivial
 rw [List.drop_zero,zc3,z6L] at h;exact h
theorem zbf2 (x:At) (hx:zUi g x) (a:yC) (most i k:Int) (fuel n:Nat) (hf:x.Ag.length<fuel):
  zyQ g fuel a most i k ((1+n:Nat):Int) 0 x=(true,(a,most,i,k,((1+max n (zmO x.Ag):Nat):Int),x)):=by
 obtain ⟨⟨h1,h2⟩,⟨h5,h6,h7⟩,h3,h4⟩:=hx
 have h:=zc2 (W:=zyC g) (z:=default) (l:=x.Ag) (fun j (n:Nat)=>(a,most,i,k,(),(n:Int),(j:Int),())) (fun _ _=>(x,())) (fun y n=>.inl (max n (1+zbs y))) (fun n=>(a,most,i,k,(n:Int),x)) (fun i n=>True)
  (fun j n hi hI=>.inl ⟨_,rfl,trivial,fun H K D=>by
   have h8:=h6 _ (zu hi);show (zmx g a most i k n j x).ev H K D=_;unfold zmx;simp only [Wy.ev_i,Wy.ev_k,Wy.ev_h,Wy.ev_bn,Wy.ev_d,tT,hi,h3 _ (zu hi)];rw [zgK (by omega),show (1:Int)=((1:Nat):Int) from rfl,zox (n:=1) (by omega),zY7]⟩)
  (fun n hI H K D=>by
   show (zmx g a most i k n x.Ag.length x).ev H K D=_;unfold zmx;simp only [Wy.ev_i,Wy.ev_k,tT,Nat.lt_irrefl]) fuel 0 (1+n) (by omega) (Nat.zero_le _) trivial
 rw [List.drop_zero,zc3,zbaR] at h;exact h
theorem zbgO (x:At) (hx:zUi g x) (a:yC) (most i k:Int) (fuel n:Nat) (hf:x.Items.length<fuel):
  zFv g fuel a most i k ((1+n:Nat):Int) 0 x=(true,(a,most,i,k,((1+max n (zk0 x.Items):Nat):Int))):=by
 obtain ⟨⟨h1,h2⟩,⟨h5,h6,h7⟩,h3,h4⟩:=hx
 have h:=zc2 (W:=zyN g) (z:=default) (l:=x.Items) (fun j (n:Nat)=>(a,most,i,k,(),(n:Int),(j:Int),())) (fun _ _=>(x,())) (fun y n=>.inl (max n (1+zbs y.Ann))) (fun n=>(a,most,i,k,(n:Int))) (fun i n=>True)
  (fun j n hi hI=>.inl ⟨_,rfl,trivial,fun H K D=>by
   have h8:=h7 _ (zu hi);show (zmm g a most i k n j x).ev H K D=_;unfold zmm;simp only [Wy.ev_i,Wy.ev_k,Wy.ev_h,Wy.ev_bn,Wy.ev_d,tT,hi,h4 _ (zu hi)];rw [zgK (by omega),show (1:Int)=((1:Nat):Int) from rfl,zox (n:=1) (by omega),zY7]⟩)
  (fun n hI H K D=>by
   show (zmm g a most i k n x.Items.length x).ev H K D=_;unfold zmm;simp only [Wy.ev_i,Wy.ev_k,tT,Nat.lt_irrefl]) fuel 0 (1+n) (by omega) (Nat.zero_le _) trivial
 rw [List.drop_zero,zc3,z9P] at h;exact h
theorem RNes_12' (x:At) (hx:zUi g x) (a:yC) (most i k:Int) (fuel:Nat) (hf:x.Ag.length<fuel):zyQ g fuel a most i k 1 0 x=(true,(a,most,i,k,((1+zmO x.Ag:Nat):Int),x)):=by
 have h:=zbf2 g x hx a most i k fuel 0 hf;rw [Nat.zero_max] at h; exact h
theorem zbhE (a:yC) (i:Nat) (hi:i<a.length) (hla:a.length≤1000000) (l:yD) (el:(a.getD i default).Fs=l) (hl:l.length≤1000000) (hg:∀ f∈l,zUi g f.At) (fuel n:Nat) (hf:l.length<fuel):
  zH2 g fuel a n i 0=(true,(a,((max n (zdl l):Nat):Int),(i:Int))):=by
 have h:=zc2 (W:=zzM g) (z:=default) (l:=l) (fun k (n:Nat)=>(a,(n:Int),(i:Int),(k:Int),())) (fun _ _=>()) (fun y n=>.inl (max n (zn5 y.At))) (fun n=>(a,(n:Int),(i:Int))) (fun k n=>True)
  (fun k n hk hI=>.inl ⟨_,rfl,trivial,fun H K D=>by
   have hx:=hg _ (zu hk);have h5:=hx.2.1.1;show (zng g a n i k).ev H K D=_;unfold zng;simp only [Wy.ev_i,Wy.ev_k,Wy.ev_h,Wy.ev_bn,Wy.ev_d,tT,hi,el,hk,At.eta];generalize l.getD k default=f at *;rw [zEp] at h5 ⊢;by_cases hz:f.At.Kind=0
   ·have e:(f.At.Kind==0)=true:=by simp [hz]
    simp only [e,cond_true];rw [if_pos hz,Nat.max_zero,zgK (by omega)]
   ·have e:(f.At.Kind==0)=false:=by simp [hz]
    have hx1:=hx.1;simp only [e,cond_false];rw [if_neg hz] at h5 ⊢;rw [RNes_12' g _ hx _ _ _ _ _ (by omega)]
    simp only [cond_true,Int.toNat_natCast,At.eta];rw [zbgO g _ hx _ _ _ _ _ _ (by omega)]
    simp only [cond_true];rw [zgK (by omega),zY7]⟩)
  (fun n hI H K D=>by
   show (zng g a n i l.length).ev H K D=_;unfold zng;simp only [Wy.ev_i,Wy.ev_k,tT,hi,el,Nat.lt_irrefl]) fuel 0 n (by omega) (Nat.zero_le _) trivial
 rw [List.drop_zero,zc3,zUy] at h;exact h
theorem zbg0 (l:yC) (hl:l.length≤1000000) (hg:∀ t∈l,t.Fs.length≤1000000∧∀ f∈t.Fs,zUi g f.At) (fuel n:Nat) (hf:l.length<fuel):
  zHr g fuel l n 0=(true,((max n (zbs l):Nat):Int)):=by
 have h:=zc2 (W:=zzJ g) (z:=default) (l:=l) (fun i (n:Nat)=>(l,(n:Int),(i:Int),())) (fun _ _=>()) (fun y n=>.inl (max n (zdl y.Fs))) (fun n=>(n:Int)) (fun i n=>True)
  (fun i n hi hI=>.inl ⟨_,rfl,trivial,fun H K D=>by
   obtain ⟨h1,h3⟩:=hg _ (zu hi);have hz:=zLR l i hi;show (znu g l n i).ev H K D=_;unfold znu;simp only [Wy.ev_i,Wy.ev_k,Wy.ev_h,Wy.ev_bn,Wy.ev_d,tT,hi,At.eta];rw [zbhE g l i hi hl _ rfl h1 h3 _ _ (by omega)]
   simp only [cond_true];rw [zgK (by omega)]⟩)
  (fun n hI H K D=>by
   show (znu g l n l.length).ev H K D=_;unfold znu;simp only [Wy.ev_i,Wy.ev_k,tT,Nat.lt_irrefl]) fuel 0 n (by omega) (Nat.zero_le _) trivial
 rw [List.drop_zero,zc3,z6L] at h;exact h
end
theorem z5G:∀ (n d:Nat) (a:yC),zp d a→d≤n→d≤100→zge n a=(true,(zbs a:Int))∧zlf n a=(true,(zbs a:Int))
 | n,0,a,h,hd,hs=>h.elim
 | 0,d+1,a,h,hd,hs=>by omega
 | n+1,d+1,a,h,hd,hs=>by
  have hg:=fun y (hy:zp d y)=>z5G n d y hy (by omega) (by omega)
  have hsub:∀ t∈a,t.Fs.length≤1000000∧∀ f∈t.Fs,zUi (zge n) f.At∧zUi (zlf n) f.At:=fun t ht=>by
   obtain ⟨h1,h2⟩:=zQo h ht;refine ⟨h1,fun f hf=> ?_⟩
   obtain ⟨h3,h4,h5⟩:=h2 f hf;have q1:∀ y∈f.At.Ag,zbs y≤d:=fun y hy=>zS7 d y (h4 y hy)
   have q2:∀ y∈f.At.Items,zbs y.Ann≤d:=fun y hy=>zS7 d y.Ann (h5 y hy)
   have q3:zn5 f.At≤1000:=by
    have r1:=z3M _ q1; have r2:=z1i _ q2;rw [zEp]; split <;>omega
   have q4:zn5 f.At≤1000∧(∀ y∈f.At.Ag,zbs y≤1000)∧∀ y∈f.At.Items,zbs y.Ann≤1000:=⟨q3,fun y hy=>by have:=q1 y hy; omega,fun y hy=>by have:=q2 y hy; omega⟩
   exact ⟨⟨h3,q4,fun y hy=>(hg y (h4 y hy)).1,fun y hy=>(hg _ (h5 y hy)).1⟩,⟨h3,q4,fun y hy=>(hg y (h4 y hy)).2,fun y hy=>(hg _ (h5 y hy)).2⟩⟩
  constructor
  ·rw [zNR];unfold zpI zCr;have h1:=zbim (zge n) a h.1 (fun t ht=>⟨(hsub t ht).1,fun f hf=>((hsub t ht).2 f hf).1⟩) (Int.toNat 0+a.length+(Int.ofNat a.length).toNat +Int.toNat 0+1) 0 (by omega)
   rw [show ((0:Nat):Int)=(0:Int) from rfl,Nat.zero_max] at h1
   rw [Wy.fin_bn,show Int.ofNat a.length=(a.length:Int) from rfl] at *
   rw [h1]; rfl
  ·rw [zYt];unfold zyX zJP;have h1:=zbg0 (zlf n) a h.1 (fun t ht=>⟨(hsub t ht).1,fun f hf=>((hsub t ht).2 f hf).2⟩) (a.length+Int.toNat 0+Int.toNat 0+1+zb2 a) 0 (by omega)
   rw [show ((0:Nat):Int)=(0:Int) from rfl,Nat.zero_max] at h1
   rw [Wy.fin_bn,h1]; rfl
theorem zz0 (x y:Int):zdZ x y=(true,zee x y):=by
 unfold zdZ zJI ztd zOn zee;by_cases h1:x<y
 ·simp [h1,Wy.fin_i,Wy.fin_k]
 ·by_cases h2:y<x <;>simp [h1,h2,Wy.fin_i,Wy.fin_k]
theorem zwP (x y:Int):zjg x y=(true,zee x y):=by
 unfold zjg zFr znZ zJu zee;by_cases h1:x<y
 ·simp [h1,Wy.fin_i,Wy.fin_k]
 ·by_cases h2:y<x <;>simp [h1,h2,Wy.fin_i,Wy.fin_k]
def zvo:List Int→Int
 | []=>0
 | x::r=>if x=0 then zvo r else x
theorem zba9 (l:List Int) (hl:l.length≤1000000):∀ (n i:Nat),l.length<i+n→i≤l.length→∃ r,zID n 0 l l.length i=(true,r)∧(r=.inl (zvo (l.drop i))∨(r=.inr 0∧zvo (l.drop i)=0))
 | 0,i,h,h2=>by omega
 | n+1,i,h,h2=>by
  show ∃ r,(zIx 0 l l.length i).ev (fun x y=>zID n x.1 x.2.1 x.2.2.1 x.2.2.2.1) (fun r=>(true,r)) (false,.inl default)=(true,r)∧_
  unfold zIx;by_cases hi:i<l.length
  ·simp only [Wy.ev_i,Wy.ev_k,Wy.ev_h,Int.ofNat_eq_natCast,zB8,zfe,decide_true,decide_false,Bool.and_self,Bool.true_and,Bool.and_true,cond_true,cond_false,Int.toNat_natCast,Bool.not_true,Bool.not_false,hi];obtain ⟨r,h1,h3⟩:=zba9 l hl n (i+1) (by omega) (by omega)
   rw [zbG hi,zV (by omega),h1]
   generalize l.getD i default=x;by_cases hx:x=0
   ·have e:(x != 0)=false:=by simp [hx]
    simp only [e,cond_false,zvo,hx,if_true];exact ⟨r,rfl,h3⟩
   ·have e:(x != 0)=true:=by simp [hx]
    simp only [e,cond_true,zvo,hx,if_false];exact ⟨_,rfl,.inl rfl⟩
  ·simp only [Wy.ev_i,Wy.ev_k,Wy.ev_h,Int.ofNat_eq_natCast,zB8,zfe,decide_true,decide_false,Bool.and_self,Bool.true_and,Bool.and_true,cond_true,cond_false,Int.toNat_natCast,Bool.not_true,Bool.not_false,hi,zdd hi];exact ⟨_,rfl,.inr ⟨rfl,rfl⟩⟩
theorem zyf (l:List Int) (hl:l.length≤1000000):zmR l=(true,zvo l):=by
 unfold zmR zYl;obtain ⟨r,h1,h2⟩:=zba9 l hl (Int.toNat 0+l.length+(Int.ofNat l.length).toNat +Int.toNat 0+1) 0 (by simp; omega) (by omega)
 rw [show ((0:Nat):Int)=(0:Int) from rfl] at h1
 rw [Wy.fin_bn,show Int.ofNat l.length=(l.length:Int) from rfl] at *
 rw [h1];rw [List.drop_zero] at h2;rcases h2 with rfl | ⟨rfl,h2⟩
 ·rfl
 ·rw [h2]; rfl
section
variable {α:Type}
def zyv (c:α→α→Int):List α→List α→Int
 | [],[]=>0
 | [],_::_=> -1
 | _::_,[]=>1
 | x::a,y::b=>if c x y=0 then zyv c a b else c x y
theorem zOX (e:α→TT) {c:α→α→Int}:∀ (a b:List α),(∀ x∈a,∀ y∈b,c x y=zbc (e x) (e y))→zyv c a b=zbO (a.map e) (b.map e)
 | [],[],_=>by simp only [zyv,List.map,zbO]
 | [],_::_,_=>by simp only [zyv,List.map,zbO]
 | _::_,[],_=>by simp only [zyv,List.map,zbO]
 | x::a,y::b,h=>by
  simp only [zyv,List.map,zbO];rw [h x (by simp) y (by simp),zOX e a b fun x hx y hy=>h x (by simp [hx]) y (by simp [hy])]
variable [Inhabited α]
def z8p (g:α→α→Bool×Int) (s1:List α) (s2:List α) (t11:List α) (t12:Int) (t13:Int):Wy (List α×List α×Unit×List α×Int×Int×Unit) (Unit) (Int⊕(List α×List α)):=.i (decide (t13<t12)) (.i (decide ((0:Int)≤t13)&&decide (t13<Int.ofNat t11.length)) (.i (decide (t13≥Int.ofNat s2.length)) (.k (.inl (1:Int))) (.i (decide ((0:Int)≤t13)&&decide (t13<Int.ofNat s2.length)) (.bn (g (t11.getD t13.toNat default) (s2.getD t13.toNat default)) fun r0=>.i (r0 != (0:Int)) (.k (.inl (r0))) (.h (s1,s2,(),t11,t12,(IntKind.i64.wrap (t13+(1:Int))),()) ())) .d)) .d) (.k (.inr (s1,s2)))
def zbcI (g:α→α→Bool×Int) (x:List α×List α×Unit×List α×Int×Int×Unit) (y:Unit):Wy (List α×List α×Unit×List α×Int×Int×Unit) (Unit) (Int⊕(List α×List α)):=z8p g x.1 x.2.1 x.2.2.2.1 x.2.2.2.2.1 x.2.2.2.2.2.1
def zbcw (g:α→α→Bool×Int) (n:Nat) (s1:List α) (s2:List α) (t11:List α) (t12:Int) (t13:Int):Bool×(Int⊕(List α×List α)):=zH (zbcI g) (.inl default) n (s1,s2,(),t11,t12,t13,()) ()
def CF (g:α→α→Bool×Int) (s1 s2:List α):Bool×Int:=(.bn (zbcw g (s1.length+s2.length+s1.length+(Int.ofNat s1.length).toNat +Int.toNat (0:Int)+(1:Nat)) s1 s2 s1 (Int.ofNat s1.length) (0:Int)) fun r2=>.i (isL r2) (.k (getL r2)) (.i (decide (Int.ofNat (getR r2).fst.length<Int.ofNat (getR r2).snd.length)) (.k (-1:Int)) (.k (0:Int))):Wy0 Int).fin default
theorem zbbo (g:α→α→Bool×Int) (c:α→α→Int) (a b:List α) (ha:a.length≤1000000) (hg:∀ x∈a,∀ y∈b,g x y=(true,c x y)):∀ (n i:Nat),a.length<i+n→i≤a.length→i≤b.length→
  ∃ r,zbcw g n a b a a.length i=(true,r)∧((r=.inl (zyv c (a.drop i) (b.drop i)))∨(r=.inr (a,b)∧zyv c (a.drop i) (b.drop i)=if a.length<b.length then -1 else 0))
 | 0,i,h,h2,h3=>by omega
 | n+1,i,h,h2,h3=>by
  show ∃ r,(z8p g a b a a.length i).ev (fun x y=>zbcw g n x.1 x.2.1 x.2.2.2.1 x.2.2.2.2.1 x.2.2.2.2.2.1) (fun r=>(true,r)) (false,.inl default)=(true,r)∧_
  unfold z8p;by_cases hi:i<a.length
  ·by_cases hi':i<b.length
   ·have hg':¬ b.length≤i:=by omega
    simp only [Wy.ev_i,Wy.ev_k,Wy.ev_h,Wy.ev_bn,Wy.ev_d,Int.ofNat_eq_natCast,zB8,zfe,decide_true,decide_false,Bool.and_self,Bool.true_and,Bool.and_true,cond_true,cond_false,Int.toNat_natCast,Bool.not_true,Bool.not_false,hi,hi',zbdA,hg',hg _ (zu hi) _ (zu hi')];rw [zbG hi,zbG hi',zV (by omega)]
    simp only [zyv];generalize c (a.getD i default) (b.getD i default)=z;by_cases hx:z=0
    ·have e:(z != 0)=false:=by simp [hx]
     simp only [e,cond_false,hx,if_true];exact zbbo g c a b ha hg n (i+1) (by omega) (by omega) (by omega)
    ·have e:(z != 0)=true:=by simp [hx]
     simp only [e,cond_true,hx,if_false];exact ⟨_,rfl,.inl rfl⟩
   ·have hg':b.length≤i:=by omega
    simp only [Wy.ev_i,Wy.ev_k,Wy.ev_h,Wy.ev_bn,Wy.ev_d,Int.ofNat_eq_natCast,zB8,zfe,decide_true,decide_false,Bool.and_self,Bool.true_and,Bool.and_true,cond_true,cond_false,Int.toNat_natCast,Bool.not_true,Bool.not_false,hi,zbdA,hg'];refine ⟨_,rfl,.inl ?_⟩;rw [zbG hi,zdd hi']; rfl
  ·simp only [Wy.ev_i,Wy.ev_k,Wy.ev_h,Wy.ev_bn,Wy.ev_d,Int.ofNat_eq_natCast,zB8,zfe,decide_true,decide_false,Bool.and_self,Bool.true_and,Bool.and_true,cond_true,cond_false,Int.toNat_natCast,Bool.not_true,Bool.not_false,hi];refine ⟨_,rfl,.inr ⟨rfl, ?_⟩⟩;rw [zdd hi];by_cases hi':i<b.length
   ·rw [zbG hi',if_pos (by omega)]; rfl
   ·rw [zdd hi',if_neg (by omega)]; rfl
theorem zbio (g:α→α→Bool×Int) (c:α→α→Int) (a b:List α) (ha:a.length≤1000000) (hg:∀ x∈a,∀ y∈b,g x y=(true,c x y)):CF g a b=(true,zyv c a b):=by
 unfold CF;obtain ⟨r,h1,h2⟩:=zbbo g c a b ha hg (a.length+b.length+a.length+(Int.ofNat a.length).toNat +Int.toNat 0+1) 0 (by simp; omega) (by omega) (by omega)
 rw [show ((0:Nat):Int)=(0:Int) from rfl] at h1
 rw [Wy.fin_bn,show Int.ofNat a.length=(a.length:Int) from rfl] at *
 rw [h1];simp only [List.drop_zero] at h2;rcases h2 with rfl | ⟨rfl,h2⟩
 ·rfl
 ·rw [h2];simp only [Wy.fin_i,Wy.fin_k,Int.ofNat_eq_natCast,zB8,zfe,decide_true,decide_false,Bool.and_self,Bool.true_and,Bool.and_true,cond_true,cond_false,Int.toNat_natCast,Bool.not_true,Bool.not_false,isL,getR];by_cases h3:a.length<b.length <;>simp [h3]
end
theorem zZd {α:Type} [Inhabited α] (e:α→TT) (g:α→α→Bool×Int) (a b:List α) (ha:a.length≤1000000) (hg:∀ x∈a,∀ y∈b,g x y=(true,zbc (e x) (e y))):CF g a b=(true,zbO (a.map e) (b.map e)):=by
 rw [zbio g (fun x y=>zbc (e x) (e y)) a b ha hg,zOX e a b fun _ _ _ _=>rfl]
theorem Fc.eta2 (x:Fc):(FO.mk (At.mk x.At.Kind x.At.Row x.At.Ag x.At.Func x.At.Items x.At.Op x.At.Bd) x.Exp:Fc)=x:=by rw [At.eta]
theorem zbe3 (g):zbV g=CF g:=rfl
theorem zbca (g):zbA g=CF g:=by
 have h:zbS g=zbcI g:=by
  funext x y
  unfold zbS zd5 zbcI z8p;rw [Fc.eta2,Fc.eta2]
 funext a b
 unfold zbA zef zd6;rw [h]; rfl
theorem zbgi (g):zbw g=CF g:=rfl
theorem zbew (g):zbL g=CF g:=rfl
theorem zNh (a b:Value):ztc a b=(true,zbc (trV a) (trV b)):=by
 unfold ztc zOw;have h:(strings_Compare a.Text b.Text).2=zbc (trB a.Text) (trB b.Text):=by rw [← zbbj]; rfl
 simp only [zz0,zwP,Wy.fin_bn,cond_true,h];rw [zyf _ (by simp)]
 simp only [Wy.fin_k,cond_true,trV,zbc,zbO,zvo];rfl
theorem zQA:∀ n,
  (∀ d a b,zp d a→10*d≤n→zga n a b=(true,zbO (zdt a) (zdt b)))∧
  (∀ d a b,zp d a→10*d≤n+1→zbT n a b=(true,zbO (zdt a) (zdt b)))∧
  (∀ d x y,zdG (zp d) x.Fs→10*d+10≤n+2→ziZ n x y=(true,zbc (zAG x) (zAG y)))∧
  (∀ d x y,zdG (zp d) x.Fs→10*d+10≤n+3→zg7 n x y=(true,zbO (zbD x.Fs) (zbD y.Fs)))∧
  (∀ d l l',zdG (zp d) l→10*d+10≤n+4→zb0 n l l'=(true,zbO (zbD l) (zbD l')))∧
  (∀ d x y,zcY (zp d) x.At→10*d+10≤n+5→zfZ n x y=(true,zbc (zhR x) (zhR y)))∧
  (∀ d x y,zcY (zp d) x→10*d+10≤n+6→zhi n x y=(true,zbc (zdD x) (zdD y)))∧
  (∀ d a b,a.length≤1000000→(∀ x∈a,zp d x)→10*d+10≤n+7→zbv n a b=(true,zbO (zxZ a) (zxZ b)))∧
  (∀ d a b,a.length≤1000000→(∀ x∈a,zp d x.Ann)→10*d+10≤n+7→zbK n a b=(true,zbO (zhq a) (zhq b)))∧
  (∀ d x y,zp d x.Ann→10*d+10≤n+8→zfc n x y=(true,zbc (zbf x) (zbf y)))
 | 0=>by
  refine ⟨?_, ?_, ?_, ?_, ?_, ?_, ?_, ?_, ?_, ?_⟩
  ·intro d a b h hd; have:d=0:=by omega
   subst this; exact h.elim
  ·intro d a b h hd; have:d=0:=by omega
   subst this; exact h.elim
  all_goals (intros; omega)
 | n+1=>by
  obtain ⟨h1,h2,h3,h4,h5,h6,h7,h8,h9,h10⟩:=zQA n;refine ⟨?_, ?_, ?_, ?_, ?_, ?_, ?_, ?_, ?_, ?_⟩
  ·intro d a b h hd;rw [zNJ];unfold zpz zCf;rw [Wy.fin_bn,h2 d a b h (by omega)]; rfl
  ·intro d a b h hd;cases d with
   | zero=>exact h.elim
   | succ d=>
    rw [zii,zbe3,zH0,zH0];exact zZd zAG _ a b h.1 fun x hx y hy=>h3 d x y (h.2 x hx) (by omega)
  ·intro d x y h hd;rw [zIW];unfold zl6 zy4;rw [Wy.fin_bn,h4 d x y h (by omega)]
   simp only [cond_true,Wy.fin_bn,zwP];rw [zyf _ (by simp)]
   obtain ⟨c,l⟩:=x; obtain ⟨c',l'⟩:=y;simp only [cond_true,Wy.fin_k,zvo,zAG,zbc,zbO];rfl
  ·intro d x y h hd;rw [zFZ];unfold zkO zww;rw [Wy.fin_bn,h5 d _ _ h (by omega)]; rfl
  ·intro d l l' h hd;rw [ziY,zbca,zxQ,zxQ];exact zZd zhR _ l l' h.1 fun x hx y hy=>h6 d x y (h.2 x hx) (by omega)
  ·intro d x y h hd;rw [zE4];unfold zju zuN;rw [At.eta,At.eta,Wy.fin_bn,h7 d _ _ h (by omega)]
   simp only [cond_true,Wy.fin_bn,zz0];rw [zyf _ (by simp)]
   obtain ⟨c,l⟩:=x; obtain ⟨c',l'⟩:=y;simp only [cond_true,Wy.fin_k,zvo,zhR,zbc,zbO];rfl
  ·intro d x y h hd;rw [zFV];unfold zkL zwB;simp only [cond_true,Wy.fin_bn,zz0,zNh,h8 d x.Ag y.Ag h.1.1 h.2.1 (by omega),h9 d x.Items y.Items h.1.2.1 (fun w hw=>(h.2.2 w hw).2) (by omega)]
   rw [zyf _ (by simp)]
   obtain ⟨k,r,a,f,i,o,v⟩:=x; obtain ⟨k',r',a',f',i',o',v'⟩:=y;simp only [cond_true,Wy.fin_k,zvo,zdD,zbc,zbO];rfl
  ·intro d a b h0 h hd;rw [zfx,zbgi,zEI,zEI];exact zZd (fun x=>TT.l (zdt x)) _ a b h0 fun x hx y hy=>by rw [h1 d x y (h x hx) (by omega)]; simp only [zbc]
  ·intro d a b h0 h hd;rw [zgC,zbew,zmX,zmX];exact zZd zbf _ a b h0 fun x hx y hy=>h10 d x y (h x hx) (by omega)
  ·intro d x y h hd;rw [zGO];unfold zkC zwy;simp only [cond_true,Wy.fin_bn,zNh,h1 d _ _ h (by omega)]
   rw [zyf _ (by simp)]
   obtain ⟨c,l⟩:=x; obtain ⟨c',l'⟩:=y;simp only [cond_true,Wy.fin_k,zvo,zbf,zbc,zbO];rfl
theorem zQw {d:Nat} {a:yC} (h:zp d a) (hd:d≤100) (b:yC):zz9 a b=(true,zbO (zdt a) (zdt b)):=(zQA 1000).1 d a b h (by omega)
theorem zx5 {d:Nat} {x:Term} (h:zdG (zp d) x.Fs) (hd:d≤99) (y:Term):zb3 x y=(true,zbO (zbD x.Fs) (zbD y.Fs)):=(zQA 1000).2.2.2.1 d x y h (by omega)
theorem zxR {d:Nat} {x:At} (h:zcY (zp d) x) (hd:d≤99) (y:At):zi2 x y=(true,zbc (zdD x) (zdD y)):=(zQA 1000).2.2.2.2.2.2.1 d x y h (by omega)
theorem zj2 {d:Nat} {x:Wd} (h:zp d x.Ann) (hd:d≤99) (y:Wd):zbh x y=(true,zbc (zbf x) (zbf y)):=(zQA 1000).2.2.2.2.2.2.2.2.2 d x y h (by omega)
theorem zrG {d:Nat} {a:yC} (h:zp d a) (hd:d≤100) (b:yC):zcv a b=(true,decide (a=b)):=by
 unfold zcv zHE;rw [Wy.fin_bn,zQw h hd];simp only [cond_true,Wy.fin_k];congr 1;by_cases e:a=b
 ·subst e; rw [zXG]; simp
 ·have:zbO (zdt a) (zdt b)≠0:=fun h=>e (zHG _ _ (zK1 _ _ h))
  simp [e,this]
theorem z08 (s:ByteArray):∀ (n i:Nat) (r:List UInt8),s.size≤i+n→ByteArray.toList.loop s i r=r.reverse++s.data.toList.drop i
 | 0,i,r,h=>by
  rw [ByteArray.toList.loop,if_neg (by omega),List.drop_eq_nil_of_le (by rw [← Lib.size_eq]; omega),List.append_nil]
 | n+1,i,r,h=>by
  rw [ByteArray.toList.loop];by_cases hi:i<s.size
  ·have hi':i<s.data.toList.length:=by rw [← Lib.size_eq]; exact hi
   rw [if_pos hi,z08 s n (i+1) _ (by omega),List.drop_eq_getElem_cons hi',List.reverse_cons,List.append_assoc]
   congr 1
   have:s.get! i=s.data.toList[i]:=by
    have h':i<s.data.size:=hi;show s.data[i]! =s.data.toList[i];rw [getElem!_pos s.data i h']; rfl
   rw [this]; rfl
  ·rw [if_neg hi,List.drop_eq_nil_of_le (by rw [← Lib.size_eq]; omega),List.append_nil]
theorem toList_eq (s:ByteArray):s.toList=s.data.toList:=by
 rw [ByteArray.toList,z08 s s.size 0 [] (by omega)]; rfl
theorem zHU {s t:ByteArray} (h:s.data.toList=t.data.toList):s=t:=by
 cases s; cases t;congr 1;exact Array.toList_inj.1 h
theorem zbcs (s t:ByteArray):(s.toList==t.toList)=decide (s.data.toList=t.data.toList):=by
 rw [toList_eq,toList_eq];cases hb:(s.data.toList==t.data.toList) with
 | true=>rw [decide_eq_true (beq_iff_eq.1 hb)]
 | false=>rw [decide_eq_false (fun h=>by rw [beq_iff_eq.2 h] at hb; cases hb)]
theorem zXx (s t:ByteArray):(s.toList==t.toList)=decide (s=t):=by
 rw [zbcs];by_cases h:s=t
 ·rw [decide_eq_true h,decide_eq_true (by rw [h])]
 ·rw [decide_eq_false h,decide_eq_false fun e=>h (zHU e)]
theorem zvI (z w:Int):(z != w)= !decide (z=w):=by by_cases h:z=w <;>simp [h]
theorem zUT:∀ a b:List UInt8,Op.bytesLess a b=decide (Lib.compareBytes a b<0)
 | [],[]=>by simp [Op.bytesLess,Lib.compareBytes]
 | _::_,[]=>by simp [Op.bytesLess,Lib.compareBytes]
 | [],_::_=>by simp [Op.bytesLess,Lib.compareBytes]
 | x::a,y::b=>by
  simp only [Op.bytesLess,Lib.compareBytes];by_cases p:x<y
  ·simp [p]
  ·by_cases q:y<x
   ·have hne:¬ x=y:=fun e=>by subst e; exact p q
    simp [p,q,hne]
   ·have he:x=y:=UInt8.toNat_inj.1 (by rw [UInt8.lt_iff_toNat_lt] at p q; omega)
    subst he;simp [p,zUT a b]
theorem zL2 (a b:Value):zom a b=(true,zbc (trV a) (trV b)):=by
 unfold zom zOm zA3 zYY;rw [zXx,toList_eq,toList_eq,zUT,zbbj];simp only [trV,zbc,zbO,zee];simp only [Wy.fin_i,Wy.fin_bn,Wy.fin_k,cond_true,zvI];by_cases h1:a.Kind=b.Kind
 ·by_cases h2:a.Int=b.Int
  ·by_cases h3:a.Text=b.Text
   ·simp [h1,h2,h3,zHV]
   ·have h4:zbc (trB a.Text) (trB b.Text)≠0:=fun e=>by
     have:=zIC _ _ (TT.l.inj (zvk _ _ e));exact h3 (zHU this)
    have h5:=z8R (trB a.Text) (trB b.Text);simp only [trB,zbc] at h4 h5;simp only [trB,zbc];rcases h5 with h5 | h5 | h5
    ·simp [h1,h2,h3,h5]
    ·exact absurd h5 h4
    ·simp [h1,h2,h3,h5]
  ·by_cases h3:a.Int<b.Int
   ·simp [h1,h2,h3]
   ·simp [h1,h2,h3,show b.Int<a.Int by omega]
 ·by_cases h3:a.Kind<b.Kind
  ·simp [h1,h3]
  ·simp [h1,h3,show b.Kind<a.Kind by omega]
theorem zn3 (x y:Int):zcT x y=(true,zee x y):=by
 unfold zcT zR2 zee;by_cases h1:x<y
 ·simp [h1,Wy.fin_i,Wy.fin_k]
 ·by_cases h2:y<x <;>simp [h1,h2,Wy.fin_i,Wy.fin_k]
theorem zWg (x y:RowID):zmN x y=(true,if zee x.Table y.Table=0 then zee x.Seq y.Seq else zee x.Table y.Table):=by
 unfold zmN zHT;simp only [zn3,Wy.fin_i,Wy.fin_bn,Wy.fin_k,cond_true,zvI];by_cases h:zee x.Table y.Table=0
 ·simp [h]
 ·simp [h]
section
variable {α:Type} [Inhabited α]
def z8k (p q:α→α→Bool×Int) (a:List α) (b:List α) (i:Int):Wy (List α×List α×Int×Unit) (Unit) (Int⊕(List α×List α)):=.i (decide (i<Int.ofNat a.length)) (.i (decide (i<Int.ofNat b.length)) (.i (decide ((0:Int)≤i)&&decide (i<Int.ofNat a.length)) (.i (decide ((0:Int)≤i)&&decide (i<Int.ofNat b.length)) (.bn (p (a.getD i.toNat default) (b.getD i.toNat default)) fun r1=>.i (r1 != (0:Int)) (.k (.inl (r1))) (.i (decide ((0:Int)≤i)&&decide (i<Int.ofNat a.length)) (.i (decide ((0:Int)≤i)&&decide (i<Int.ofNat b.length)) (.bn (q (a.getD i.toNat default) (b.getD i.toNat default)) fun r0=>.i (r0 != (0:Int)) (.k (.inl (r0))) (.h (a,b,(IntKind.i64.wrap (i+(1:Int))),()) ())) .d) .d)) .d) .d) (.k (.inr (a,b)))) (.k (.inr (a,b)))
def zbbU (p q:α→α→Bool×Int) (x:List α×List α×Int×Unit) (y:Unit):Wy (List α×List α×Int×Unit) (Unit) (Int⊕(List α×List α)):=z8k p q x.1 x.2.1 x.2.2.1
def zbcB (p q:α→α→Bool×Int) (n:Nat) (a:List α) (b:List α) (i:Int):Bool×(Int⊕(List α×List α)):=zH (zbbU p q) (.inl default) n (a,b,i,()) ()
def RG (p q:α→α→Bool×Int) (a b:List α):Bool×Int:=(.bn (zbcB p q (a.length+b.length+Int.toNat (0:Int)+(1:Nat)) a b (0:Int)) fun r5=>.i (isL r5) (.k (getL r5)) (.bn (zcT (Int.ofNat (getR r5).fst.length) (Int.ofNat (getR r5).snd.length)) fun r4=>.k r4):Wy0 Int).fin default
theorem zbaY (p q:α→α→Bool×Int) (c1 c2:α→α→Int) (a b:List α) (ha:a.length≤1000000) (hp:∀ x∈a,∀ y∈b,p x y=(true,c1 x y)) (hq:∀ x∈a,∀ y∈b,q x y=(true,c2 x y)):∀ (n i:Nat),a.length<i+n→i≤a.length→i≤b.length→
  ∃ r,zbcB p q n a b i=(true,r)∧((r=.inl (zyv (fun x y=>if c1 x y=0 then c2 x y else c1 x y) (a.drop i) (b.drop i)))∨(r=.inr (a,b)∧zyv (fun x y=>if c1 x y=0 then c2 x y else c1 x y) (a.drop i) (b.drop i)=zee a.length b.length))
 | 0,i,h,h2,h3=>by omega
 | n+1,i,h,h2,h3=>by
  show ∃ r,(z8k p q a b i).ev (fun x y=>zbcB p q n x.1 x.2.1 x.2.2.1) (fun r=>(true,r)) (false,.inl default)=(true,r)∧_
  unfold z8k;by_cases hi:i<a.length
  ·by_cases hi':i<b.length
   ·simp only [Wy.ev_i,Wy.ev_k,Wy.ev_h,Wy.ev_bn,Wy.ev_d,tT,hi,hi',hp _ (zu hi) _ (zu hi'),hq _ (zu hi) _ (zu hi')];rw [zbG hi,zbG hi',zV (by omega)]
    simp only [zyv];generalize c1 (a.getD i default) (b.getD i default)=z1;generalize c2 (a.getD i default) (b.getD i default)=z2;by_cases hx:z1=0
    ·have e:(z1 != 0)=false:=by simp [hx]
     by_cases hx2:z2=0
     ·have e2:(z2 != 0)=false:=by simp [hx2]
      simp only [e,e2,cond_false,hx,hx2,if_true];exact zbaY p q c1 c2 a b ha hp hq n (i+1) (by omega) (by omega) (by omega)
     ·have e2:(z2 != 0)=true:=by simp [hx2]
      simp only [e,e2,cond_false,cond_true,hx,hx2,if_true,if_false];exact ⟨_,rfl,.inl rfl⟩
    ·have e:(z1 != 0)=true:=by simp [hx]
     simp only [e,cond_true,hx,if_false];exact ⟨_,rfl,.inl rfl⟩
   ·simp only [Wy.ev_i,Wy.ev_k,Wy.ev_h,Wy.ev_bn,Wy.ev_d,tT,hi,hi'];refine ⟨_,rfl,.inr ⟨rfl, ?_⟩⟩;rw [zbG hi,zdd hi'];unfold zee; rw [if_neg (by omega),if_pos (by omega)]; rfl
  ·simp only [Wy.ev_i,Wy.ev_k,Wy.ev_h,Wy.ev_bn,Wy.ev_d,tT,hi];refine ⟨_,rfl,.inr ⟨rfl, ?_⟩⟩;rw [zdd hi];by_cases hi':i<b.length
   ·rw [zbG hi']; unfold zee; rw [if_pos (by omega)]; rfl
   ·rw [zdd hi']; unfold zee; rw [if_neg (by omega),if_neg (by omega)]; rfl
theorem zbia (p q:α→α→Bool×Int) (c1 c2:α→α→Int) (a b:List α) (ha:a.length≤1000000) (hp:∀ x∈a,∀ y∈b,p x y=(true,c1 x y)) (hq:∀ x∈a,∀ y∈b,q x y=(true,c2 x y)):RG p q a b=(true,zyv (fun x y=>if c1 x y=0 then c2 x y else c1 x y) a b):=by
 unfold RG;obtain ⟨r,h1,h2⟩:=zbaY p q c1 c2 a b ha hp hq (a.length+b.length+Int.toNat 0+1) 0 (by simp; omega) (by omega) (by omega)
 rw [show ((0:Nat):Int)=(0:Int) from rfl] at h1
 rw [Wy.fin_bn,h1];simp only [List.drop_zero] at h2;rcases h2 with rfl | ⟨rfl,h2⟩
 ·rfl
 ·rw [h2];simp only [Wy.fin_i,Wy.fin_k,Wy.fin_bn,zn3,tT,isL,getR]
end
theorem z5R {α:Type} [Inhabited α] (e:α→TT) (p q:α→α→Bool×Int) (c1 c2:α→α→Int) (a b:List α) (ha:a.length≤1000000) (hp:∀ x∈a,∀ y∈b,p x y=(true,c1 x y)) (hq:∀ x∈a,∀ y∈b,q x y=(true,c2 x y))
  (hc:∀ x y,(if c1 x y=0 then c2 x y else c1 x y)=zbc (e x) (e y)):RG p q a b=(true,zbO (a.map e) (b.map e)):=by
 rw [zbia p q c1 c2 a b ha hp hq,zOX e a b fun x _ y _=>hc x y]
theorem zbeu (g):zy0 g=RG (fun x y=>g x.Fs y.Fs) (fun x y=>zcT x.Cf y.Cf):=rfl
theorem zbcc (g):zjK g=RG (fun x y=>g x.At y.At) (fun x y=>zcT x.Exp y.Exp):=by
 have h:zkG g=zbbU (fun x y=>g x.At y.At) (fun x y=>zcT x.Exp y.Exp):=by
  funext x y
  unfold zkG zy2 zbbU z8k;rw [At.eta,At.eta]
 funext a b
 unfold zjK zAF zzl;rw [h]; rfl
theorem zbeE (g):zph g=RG (fun x y=>zom x.Value y.Value) (fun x y=>g x.Ann y.Ann):=rfl
theorem z6W (gI) (g:yC→yC→Bool×Int) (a b:At) (ha:a.Ag.length≤1000000) (hg:∀ x∈a.Ag,∀ y∈b.Ag,g x y=(true,zbO (zdt x) (zdt y))):∀ (n i:Nat),a.Ag.length<i+n→i≤a.Ag.length→i≤b.Ag.length→
  ∃ r,zuk g gI n i a b=(true,r)∧((r=.inl (zyv (fun x y=>zbO (zdt x) (zdt y)) (a.Ag.drop i) (b.Ag.drop i))∧zyv (fun x y=>zbO (zdt x) (zdt y)) (a.Ag.drop i) (b.Ag.drop i)≠0)∨(r=.inr (a,b)∧zyv (fun x y=>zbO (zdt x) (zdt y)) (a.Ag.drop i) (b.Ag.drop i)=zee a.Ag.length b.Ag.length))
 | 0,i,h,h2,h3=>by omega
 | n+1,i,h,h2,h3=>by
  show ∃ r,(zul g gI i a b).ev (fun x y=>zuk g gI n x.2.2.1 y.1 y.2.1) (fun r=>(true,r)) (false,.inl default)=(true,r)∧_
  unfold zul;by_cases hi:i<a.Ag.length
  ·by_cases hi':i<b.Ag.length
   ·simp only [Wy.ev_i,Wy.ev_k,Wy.ev_h,Wy.ev_bn,Wy.ev_d,tT,hi,hi',hg _ (zu hi) _ (zu hi')];rw [zbG hi,zbG hi',zV (by omega)]
    simp only [zyv];generalize zbO (zdt (a.Ag.getD i default)) (zdt (b.Ag.getD i default))=z1;by_cases hx:z1=0
    ·have e:(z1 != 0)=false:=by simp [hx]
     simp only [e,cond_false,hx,if_true];exact z6W gI g a b ha hg n (i+1) (by omega) (by omega) (by omega)
    ·have e:(z1 != 0)=true:=by simp [hx]
     simp only [e,cond_true,hx,if_false];exact ⟨_,rfl,.inl ⟨rfl,hx⟩⟩
   ·simp only [Wy.ev_i,Wy.ev_k,Wy.ev_h,Wy.ev_bn,Wy.ev_d,tT,hi,hi'];refine ⟨_,rfl,.inr ⟨rfl, ?_⟩⟩;rw [zbG hi,zdd hi'];unfold zee; rw [if_neg (by omega),if_pos (by omega)]; rfl
  ·simp only [Wy.ev_i,Wy.ev_k,Wy.ev_h,Wy.ev_bn,Wy.ev_d,tT,hi];refine ⟨_,rfl,.inr ⟨rfl, ?_⟩⟩;rw [zdd hi];by_cases hi':i<b.Ag.length
   ·rw [zbG hi']; unfold zee; rw [if_pos (by omega)]; rfl
   ·rw [zdd hi']; unfold zee; rw [if_neg (by omega),if_neg (by omega)]; rfl
theorem zbfJ (gI) (g:yC→yC→Bool×Int) (x y:At) (ha:x.Ag.length≤1000000) (hg:∀ a∈x.Ag,∀ b∈y.Ag,g a b=(true,zbO (zdt a) (zdt b)))
  (hI:gI x.Items y.Items=(true,zbO (zhq x.Items) (zhq y.Items))):zmk g gI x y=(true,zbc (zdD x) (zdD y)):=by
 unfold zmk zDd;rw [At.eta,At.eta];obtain ⟨r,h1,h2⟩:=z6W gI g x y ha hg (Int.toNat 0+x.Ag.length+x.Items.length+y.Ag.length+y.Items.length+1) 0 (by omega) (by omega) (by omega)
 rw [show ((0:Nat):Int)=(0:Int) from rfl] at h1
 simp only [List.drop_zero] at h2;rw [zOX (fun a=>TT.l (zdt a)) x.Ag y.Ag (fun a _ b _=>by simp only [zbc]), ← zEI, ← zEI] at h2
 simp only [zn3,zWg,Wy.fin_bn,Wy.fin_i,Wy.fin_k,cond_true,h1];obtain ⟨k,r0,a,f,i,o,v⟩:=x; obtain ⟨k',r',a',f',i',o',v'⟩:=y;simp only [zdD,zbc,zbO,zvI] at *;by_cases e1:zee k k'=0
 rotate_left
 ·simp [e1]
 by_cases e2:zee r0.Table r'.Table=0
 rotate_left
 ·simp [e1,e2]
 by_cases e3:zee r0.Seq r'.Seq=0
 rotate_left
 ·simp [e1,e2,e3]
 rcases h2 with ⟨rfl,h2⟩ | ⟨rfl,h2⟩
 ·simp [e1,e2,e3,h2,isL,getL]
 simp only [e1,e2,e3,h2,isL,getR,tT,hI,if_true];by_cases e4:zee (a.length:Int) (a'.length:Int)=0
 rotate_left
 ·simp [e4]
 by_cases e5:zee f f'=0
 rotate_left
 ·simp [e4,e5]
 by_cases e6:zbO (zhq i) (zhq i')=0
 rotate_left
 ·simp [e4,e5,e6]
 by_cases e7:zee o o'=0
 rotate_left
 ·simp [e4,e5,e6,e7]
 simp [e4,e5,e6,e7,zL2]
theorem zM6:∀ n,
  (∀ d a b,zp d a→10*d≤n→zod n a b=(true,zbO (zdt a) (zdt b)))∧
  (∀ d l l',zdG (zp d) l→10*d+10≤n+1→zjL n l l'=(true,zbO (zbD l) (zbD l')))∧
  (∀ d x y,zcY (zp d) x→10*d+10≤n+2→zmw n x y=(true,zbc (zdD x) (zdD y)))∧
  (∀ d a b,a.length≤1000000→(∀ x∈a,zp d x.Ann)→10*d+10≤n+3→zk5 n a b=(true,zbO (zhq a) (zhq b)))
 | 0=>by
  refine ⟨?_, ?_, ?_, ?_⟩
  ·intro d a b h hd; have:d=0:=by omega
   subst this; exact h.elim
  all_goals (intros; omega)
 | n+1=>by
  obtain ⟨h1,h2,h3,h4⟩:=zM6 n;refine ⟨?_, ?_, ?_, ?_⟩
  ·intro d a b h hd;cases d with
   | zero=>exact h.elim
   | succ d=>
    rw [zXm,zbeu,zH0,zH0]
    exact z5R zAG _ _ (fun x y=>zbO (zbD x.Fs) (zbD y.Fs)) (fun x y=>zee x.Cf y.Cf) a b h.1 (fun x hx y hy=>h2 d _ _ (h.2 x hx) (by omega)) (fun x _ y _=>zn3 _ _) fun x y=>by
     obtain ⟨c,l⟩:=x; obtain ⟨c',l'⟩:=y;simp only [zAG,zbc,zbO];by_cases e:zee c c'=0 <;>simp [e]
  ·intro d l l' h hd;rw [zKO,zbcc,zxQ,zxQ]
   exact z5R zhR _ _ (fun x y=>zbc (zdD x.At) (zdD y.At)) (fun x y=>zee x.Exp y.Exp) l l' h.1 (fun x hx y hy=>h3 d _ _ (h.2 x hx) (by omega)) (fun x _ y _=>zn3 _ _) fun x y=>by
    obtain ⟨c,l⟩:=x; obtain ⟨c',l'⟩:=y;simp only [zhR,zbc,zbO];by_cases e:zee l l'=0 <;>simp [e]
  ·intro d x y h hd;rw [zPs];exact zbfJ _ _ x y h.1.1 (fun a ha b _=>h1 d a b (h.2.1 a ha) (by omega)) (h4 d _ _ h.1.2.1 (fun w hw=>(h.2.2 w hw).2) (by omega))
  ·intro d a b h0 h hd;rw [zN0,zbeE,zmX,zmX]
   exact z5R zbf _ _ (fun x y=>zbc (trV x.Value) (trV y.Value)) (fun x y=>zbO (zdt x.Ann) (zdt y.Ann)) a b h0 (fun x _ y _=>zL2 _ _) (fun x hx y _=>h1 d _ _ (h x hx) (by omega)) fun x y=>by
    obtain ⟨c,l⟩:=x; obtain ⟨c',l'⟩:=y;simp only [zbf,zbc,zbO];by_cases e:zbO (zdt l) (zdt l')=0 <;>simp [e]
theorem z2l {d:Nat} {a:yC} (h:zp d a) (hd:d≤100) (b:yC):zIy a b=(true,zbO (zdt a) (zdt b)):=(zM6 1000).1 d a b h (by omega)
theorem zsX {d:Nat} {l:yD} (h:zdG (zp d) l) (hd:d≤99) (l':yD):zls l l'=(true,zbO (zbD l) (zbD l')):=(zM6 1000).2.1 d l l' h (by omega)
theorem zxo {d:Nat} {x:At} (h:zcY (zp d) x) (hd:d≤99) (y:At):zlI x y=(true,zbc (zdD x) (zdD y)):=(zM6 1000).2.2.1 d x y h (by omega)
theorem zC2 {d:Nat} {a:yE} (h0:a.length≤1000000) (h:∀ x∈a,zp d x.Ann) (hd:d≤99) (b:yE):ztr a b=(true,zbO (zhq a) (zhq b)):=(zM6 1000).2.2.2 d a b h0 h (by omega)
theorem zUN {d:Nat} {a:yC} (h:zp d a) (hd:d≤100) (b:yC):ztn a b=(true,decide (a=b)):=by
 unfold ztn zWo;rw [Wy.fin_bn,z2l h hd];simp only [cond_true,Wy.fin_k];congr 1;by_cases e:a=b
 ·subst e; rw [zXG]; simp
 ·have:zbO (zdt a) (zdt b)≠0:=fun h=>e (zHG _ _ (zK1 _ _ h))
  simp [e,this]
def zeV (c:Nat→Bool):Nat→Nat→Bool
 | 0,_=>true
 | n+1,i=>c i&&zeV c n (i+1)
theorem zem {c:Nat→Bool}:∀ {n i},zeV c n i=true↔∀ k,i≤k→k<i+n→c k=true
 | 0,i=>⟨fun _ k h1 h2=>by omega,fun _=>rfl⟩
 | n+1,i=>by
  simp only [zeV,qc,zem (n:=n)];constructor
  ·rintro ⟨h1,h2⟩ k h3 h4
   by_cases e:k=i
   ·rw [e]; exact h1
   ·exact h2 k (by omega) (by omega)
  ·intro h;exact ⟨h i (by omega) (by omega),fun k h1 h2=>h k (by omega) (by omega)⟩
theorem z9e (c c':Nat→Bool):∀ n i,zeV (fun k=>c k&&c' k) n i=(zeV c n i&&zeV c' n i)
 | 0,_=>rfl
 | n+1,i=>by
  simp only [zeV,z9e c c' n (i+1)];cases c i <;>cases c' i <;>simp
theorem z92 {τ:Type} [Inhabited τ] (p:τ→Bool) (l:List τ):∀ n i,i+n=l.length→zeV (fun k=>p (l.getD k default)) n i=(l.drop i).all p
 | 0,i,h=>by rw [zdd (by omega)]; rfl
 | n+1,i,h=>by
  rw [zbG (by omega),List.all_cons]
  simp only [zeV,z92 p l n (i+1) (by omega)]
theorem zAn {τ:Type} [Inhabited τ] (p:τ→Bool) (l:List τ):zeV (fun k=>p (l.getD k default)) l.length 0=l.all p:=by
 rw [z92 p l _ _ (by omega),List.drop_zero]
section
variable {α β ρ:Type}
theorem z8U {W:α→β→Wy α β ρ} {z:ρ} (N:Nat) (ex:Nat→α) (ey:Nat→β) (c:Nat→Bool) (no yes:ρ)
  (h:∀ i,i<N→∀ (H:α→β→Bool×ρ) K D,(W (ex i) (ey i)).ev H K D=bif c i then H (ex (i+1)) (ey (i+1)) else K no)
  (he:∀ (H:α→β→Bool×ρ) K D,(W (ex N) (ey N)).ev H K D=K yes):
  ∀ n i,N<i+n→i≤N→zH W z n (ex i) (ey i)=(true,bif zeV c (N - i) i then yes else no)
 | 0,i,h1,h2=>by omega
 | n+1,i,h1,h2=>by
  show (W (ex i) (ey i)).ev (zH W z n) (fun r=>(true,r)) (false,z)=_
  by_cases hi:i<N
  ·rw [h i hi,show N - i=(N - (i+1))+1 by omega]
   simp only [zeV];cases c i with
   | false=>rfl
   | true=>rw [cond_true,z8U N ex ey c no yes h he n (i+1) (by omega) (by omega)]; rfl
  ·have:i=N:=by omega
   subst this;rw [he,Nat.sub_self]; rfl
theorem zd7 {W:α→β→Wy α β ρ} {z:ρ} (N:Nat) (ex:Nat→α) (ey:Nat→β) (c:Nat→Bool) (no yes:ρ)
  (h:∀ i,i<N→∀ (H:α→β→Bool×ρ) K D,(W (ex i) (ey i)).ev H K D=bif c i then H (ex (i+1)) (ey (i+1)) else K no)
  (he:∀ (H:α→β→Bool×ρ) K D,(W (ex N) (ey N)).ev H K D=K yes) (n:Nat) (hn:N<n):zH W z n (ex 0) (ey 0)=(true,bif zeV c N 0 then yes else no):=by
 have:=z8U (z:=z) N ex ey c no yes h he n 0 (by omega) (by omega)
 simpa using this
end
def ixf {α:Type} (p:α→Bool):List α→Nat→Int
 | [],_=> -1
 | x::r,i=>bif p x then (i:Int) else ixf p r (i+1)
theorem zba6 {α:Type} (p:α→Bool):∀ (l:List α) (i:Nat),decide (ixf p l i≥(0:Int))=l.any p
 | [],i=>by simp [ixf]
 | x::r,i=>by
  rw [List.any_cons];cases h:p x with
  | true=>simp [ixf,h]
  | false=>simpa [ixf,h] using zba6 p r (i+1)
section
variable {α γ:Type} [Inhabited α]
def zY1 (p:γ→α→Bool×Bool) (s:List α) (g:γ) (t7:Int) (t8:Int):Wy (List α×γ×Int×Int×Unit) (Unit) (Int⊕Unit):=.i (decide (t8<t7)) (.i (decide ((0:Int)≤t8)&&decide (t8<Int.ofNat s.length)) (.bn (p g (s.getD t8.toNat default)) fun r0=>.i (r0) (.k (.inl t8)) (.h (s,g,t7,(IntKind.i64.wrap (t8+(1:Int))),()) ())) .d) (.k (.inr ()))
def zSx (p:γ→α→Bool×Bool) (x:List α×γ×Int×Int×Unit) (y:Unit):Wy (List α×γ×Int×Int×Unit) (Unit) (Int⊕Unit):=zY1 p x.1 x.2.1 x.2.2.1 x.2.2.2.1
def zbcy (p:γ→α→Bool×Bool) (n:Nat) (s:List α) (g:γ) (t7:Int) (t8:Int):Bool×(Int⊕Unit):=zH (zSx p) (.inl default) n (s,g,t7,t8,()) ()
def IG (p:γ→α→Bool×Bool) (n:Nat) (g:γ) (s:List α):Bool×Int:=(.bn (zbcy p n s g (Int.ofNat s.length) (0:Int)) fun r2=>.i (isL r2) (.k (getL r2)) (.k (-1:Int)):Wy0 Int).fin default
def zbbZ (p:γ→α→Bool×Bool) (s:List α) (g:γ) (t7:Int) (t8:Int):Wy (List α×γ×Int×Int×Unit) (Unit) (Int⊕Unit):=.i (decide (t8<t7)) (.i (decide ((0:Int)≤t8)&&decide (t8<Int.ofNat s.length)) (.i ((p g (s.getD t8.toNat default)).snd) (.k (.inl t8)) (.h (s,g,t7,(IntKind.i64.wrap (t8+(1:Int))),()) ())) .d) (.k (.inr ()))
def zbif (p:γ→α→Bool×Bool) (x:List α×γ×Int×Int×Unit) (y:Unit):Wy (List α×γ×Int×Int×Unit) (Unit) (Int⊕Unit):=zbbZ p x.1 x.2.1 x.2.2.1 x.2.2.2.1
def zbcx (p:γ→α→Bool×Bool) (n:Nat) (s:List α) (g:γ) (t7:Int) (t8:Int):Bool×(Int⊕Unit):=zH (zbif p) (.inl default) n (s,g,t7,t8,()) ()
def IH (p:γ→α→Bool×Bool) (n:Nat) (g:γ) (s:List α):Bool×Int:=(.bn (zbcx p n s g (Int.ofNat s.length) (0:Int)) fun r2=>.i (isL r2) (.k (getL r2)) (.k (-1:Int)):Wy0 Int).fin default
theorem zbbr (p:γ→α→Bool×Bool) (P:α→Bool) (g:γ) (s:List α) (hs:s.length≤1000000000) (hp:∀ x∈s,p g x=(true,P x)):∀ (n i:Nat),s.length<i+n→i≤s.length→
  ∃ r,zbcy p n s g s.length i=(true,r)∧((r=.inl (ixf P (s.drop i) i))∨(r=.inr ()∧ixf P (s.drop i) i= -1))
 | 0,i,h,h2=>by omega
 | n+1,i,h,h2=>by
  show ∃ r,(zY1 p s g s.length i).ev (fun x y=>zbcy p n x.1 x.2.1 x.2.2.1 x.2.2.2.1) (fun r=>(true,r)) (false,.inl default)=(true,r)∧_
  unfold zY1;by_cases hi:i<s.length
  ·simp only [Wy.ev_i,Wy.ev_k,Wy.ev_h,Wy.ev_bn,Wy.ev_d,tT,hi,hp _ (zu hi)];rw [zbG hi,zV (by omega)]
   simp only [ixf];cases P (s.getD i default) with
   | true=>exact ⟨_,rfl,.inl rfl⟩
   | false=>exact zbbr p P g s hs hp n (i+1) (by omega) (by omega)
  ·simp only [Wy.ev_i,Wy.ev_k,Wy.ev_h,Wy.ev_bn,Wy.ev_d,tT,hi,zdd hi];exact ⟨_,rfl,.inr ⟨rfl,rfl⟩⟩
theorem zJR (p:γ→α→Bool×Bool) (P:α→Bool) (n:Nat) (g:γ) (s:List α) (hs:s.length≤1000000000) (hp:∀ x∈s,p g x=(true,P x)) (hn:s.length<n):IG p n g s=(true,ixf P s 0):=by
 unfold IG;obtain ⟨r,h1,h2⟩:=zbbr p P g s hs hp n 0 (by omega) (by omega)
 rw [show ((0:Nat):Int)=(0:Int) from rfl] at h1
 rw [Wy.fin_bn,show Int.ofNat s.length=(s.length:Int) from rfl,h1]
 rw [List.drop_zero] at h2;rcases h2 with rfl | ⟨rfl,h2⟩
 ·rfl
 ·rw [h2]; rfl
theorem zbby (p:γ→α→Bool×Bool) (P:α→Bool) (g:γ) (s:List α) (hs:s.length≤1000000000) (hp:∀ x∈s,p g x=(true,P x)):∀ (n i:Nat),s.length<i+n→i≤s.length→
  ∃ r,zbcx p n s g s.length i=(true,r)∧((r=.inl (ixf P (s.drop i) i))∨(r=.inr ()∧ixf P (s.drop i) i= -1))
 | 0,i,h,h2=>by omega
 | n+1,i,h,h2=>by
  show ∃ r,(zbbZ p s g s.length i).ev (fun x y=>zbcx p n x.1 x.2.1 x.2.2.1 x.2.2.2.1) (fun r=>(true,r)) (false,.inl default)=(true,r)∧_
  unfold zbbZ;by_cases hi:i<s.length
  ·simp only [Wy.ev_i,Wy.ev_k,Wy.ev_h,Wy.ev_bn,Wy.ev_d,tT,hi,hp _ (zu hi)];rw [zbG hi,zV (by omega)]
   simp only [ixf];cases P (s.getD i default) with
   | true=>exact ⟨_,rfl,.inl rfl⟩
   | false=>exact zbby p P g s hs hp n (i+1) (by omega) (by omega)
  ·simp only [Wy.ev_i,Wy.ev_k,Wy.ev_h,Wy.ev_bn,Wy.ev_d,tT,hi,zdd hi];exact ⟨_,rfl,.inr ⟨rfl,rfl⟩⟩
theorem zbfr (p:γ→α→Bool×Bool) (P:α→Bool) (n:Nat) (g:γ) (s:List α) (hs:s.length≤1000000000) (hp:∀ x∈s,p g x=(true,P x)) (hn:s.length<n):IH p n g s=(true,ixf P s 0):=by
 unfold IH;obtain ⟨r,h1,h2⟩:=zbby p P g s hs hp n 0 (by omega) (by omega)
 rw [show ((0:Nat):Int)=(0:Int) from rfl] at h1
 rw [Wy.fin_bn,show Int.ofNat s.length=(s.length:Int) from rfl,h1]
 rw [List.drop_zero] at h2;rcases h2 with rfl | ⟨rfl,h2⟩
 ·rfl
 ·rw [h2]; rfl
theorem zkZ {α:Type} {s:List α} {P:α→Bool} {q:Bool×Int} (h:q=(true,ixf P s 0)):((.bn q fun r0=>.k (decide (r0≥(0:Int))):Wy0 Bool).fin default)=(true,s.any P):=by
 rw [h,Wy.fin_bn,cond_true,Wy.fin_k,zba6]
end
theorem zgv (a b:Int):(a==b)=decide (a=b):=by by_cases h:a=b <;>simp [h]
theorem z1x (a b:Nat):(a==b)=decide (a=b):=by by_cases h:a=b <;>simp [h]
theorem i0 (l:Nat):((l:Int)==0)=(l==0):=by
 rw [zgv,z1x]; congr 1; simp
def zyE (a:yC):Bool:=a.any fun t=>t.Fs.length==0
theorem zR3 (a:yC) (h:a.length≤1000000000):ze6 a=(true,zyE a):=by
 unfold ze6 zzG zdn zh7;have:zdQ a=IH (fun (_:Unit) x=>zha x) (a.length+(Int.ofNat a.length).toNat +Int.toNat (0:Int)+(1:Nat)) () a:=rfl
 rw [zkZ (P:=fun t:Term=>t.Fs.length==0) (this.trans (zbfr _ _ _ _ _ h (fun x _=>by
  unfold zha zwH;rw [Wy.fin_k];congr 1;exact i0 x.Fs.length) (by omega)))]
 rfl
theorem zBU (a:yC) (h:a.length≤1000000000):ziD a=(true,zyE a):=by
 unfold ziD zMW zJw
 have:=zd7 (W:=zBZ) (z:=.inl default) a.length (fun i=>(a,(i:Int),())) (fun _=>()) (fun i=> !((a.getD i default).Fs.length==0)) (.inl true) (.inr ())
  (fun i hi H K D=>by
   show (zoU a i).ev H K D=_;unfold zoU;simp only [Wy.ev_i,Wy.ev_k,Wy.ev_h,Wy.ev_bn,Wy.ev_d,tT,hi,i0];rw [zV (by omega)]
   cases (a.getD i default).Fs.length==0 <;>rfl)
  (fun H K D=>by
   show (zoU a a.length).ev H K D=_;unfold zoU;simp only [Wy.ev_i,Wy.ev_k,tT,Nat.lt_irrefl]) (a.length+Int.toNat (0:Int)+(1:Nat)) (by omega)
 rw [show ((0:Nat):Int)=(0:Int) from rfl] at this
 rw [Wy.fin_bn,this,zAn (fun t:Term=> !(t.Fs.length==0)) a]
 have e:(a.all fun t:Term=> !(t.Fs.length==0))= !zyE a:=by simp [zyE,List.all_eq_not_any_not]
 rw [e];cases zyE a <;>rfl
def isC:yC→Bool
 | [t]=>t.Fs.length==0
 | _=>false
theorem zUA (a:yC):zhy a=(true,isC a):=by
 unfold zhy zBw
 match a with
 | []=>rfl
 | [t]=>exact congrArg (Prod.mk true) (i0 t.Fs.length)
 | t::u::r=>
  have:((Int.ofNat (t::u::r).length)==(1:Int))=false:=by simp; omega
  rw [Wy.fin_i,this]; rfl
def zbhi (p:Fc→Bool):yD→Bool
 | [f]=>p f
 | _=>false
def isU:yC→Bool
 | [t]=>t.Cf==1&&zbhi (fun f=>f.Exp==1&&(f.At.Kind==2||f.At.Kind==3||f.At.Kind==4)) t.Fs
 | _=>false
theorem z5q (x:At):zfJ x=(true,x.Kind==3||x.Kind==4):=by
 unfold zfJ zBk;rw [Wy.fin_i,Wy.fin_k,Wy.fin_k];cases x.Kind==3 <;>rfl
theorem zO7 {τ:Type} (x y:τ) (r:List τ):((Int.ofNat (x::y::r).length)==(1:Int))=false:=by
 rw [beq_eq_false_iff_ne]; simp; omega
theorem z6S (a:yC):zlG a=(true,isU a):=by
 unfold zlG zFJ
 match a with
 | []=>rfl
 | ⟨c,[]⟩::[]=>
  show (bif c != 1 then (true,false) else (true,false))=(true,c==1&&false)
  cases c != 1 <;>simp
 | ⟨c,[f]⟩::[]=>
  simp only [Wy.fin_i,Wy.fin_k,tT,isU,List.length_singleton,z5q,Wy.fin_bn,Wy.fin_d];show (bif c != 1 then (true,false) else bif f.Exp==1 then bif f.At.Kind==2 then (true,true) else (true,f.At.Kind==3||f.At.Kind==4) else (true,false))=(true,c==1&&(f.Exp==1&&(f.At.Kind==2||f.At.Kind==3||f.At.Kind==4)))
  rw [show (c != 1)= !(c==1) from rfl]
  cases c==1 <;>cases f.Exp==1 <;>cases f.At.Kind==2 <;>simp
 | ⟨c,f::g::r⟩::[]=>
  simp only [Wy.fin_i,bne,zO7];show (bif !(c==1) then (true,false) else (true,false))=(true,c==1&&false)
  cases c==1 <;>rfl
 | t::u::r=>rw [Wy.fin_i,bne,zO7]; rfl
def isB:yC→Bool
 | [t]=>t.Cf==1&&zbhi (fun f=>f.Exp==1&&decide (2≤f.At.Kind)) t.Fs
 | _=>false
theorem zOv (a:yC):zq8 a=(true,isB a):=by
 unfold zq8 zRR
 match a with
 | []=>rfl
 | ⟨c,[]⟩::[]=>
  show (bif c==1 then (true,false) else (true,false))=(true,c==1&&false)
  cases c==1 <;>rfl
 | ⟨c,[f]⟩::[]=>
  simp only [Wy.fin_i,Wy.fin_k,tT,List.length_singleton,Wy.fin_bn,Wy.fin_d];show (bif c==1 then bif decide (2≤f.At.Kind) then (true,f.Exp==1) else (true,false) else (true,false))=(true,c==1&&(f.Exp==1&&decide (2≤f.At.Kind)))
  cases c==1 <;>cases f.Exp==1 <;>cases decide (2≤f.At.Kind) <;>simp
 | ⟨c,f::g::r⟩::[]=>
  rw [Wy.fin_i];show (bif true then (Wy.i true (Wy.i (c==1) (Wy.i true (Wy.i (Int.ofNat (f::g::r).length==1) _ (.k false)) .d) (.k false)) .d:Wy0 Bool).fin default else _)=(true,c==1&&false)
  simp only [Wy.fin_i,Wy.fin_k,zO7,cond_true,cond_false];cases c==1 <;>rfl
 | t::u::r=>rw [Wy.fin_i,zO7]; rfl
theorem zQs (a b:Nat):decide (a>b)= !decide (a≤b):=by
 by_cases h:a≤b
 ·have:¬ a>b:=by omega
  simp [h,this]
 ·have:a>b:=by omega
  simp [h,this]
def zCH (t:Term):Bool:= !(decide (t.Fs.length>64)||t.Fs.any fun f=>decide (f.Exp>64)||decide (f.At.Items.length>1024))
def zeD (a:yC):Bool:=decide (a.length≤512)&&decide (zbs a≤8)&&decide (zN a≤4096)&&a.all zCH
theorem zbbP (l:yD) (h:l.length≤1000000):zcx l=(true,l.any fun f=>decide (f.Exp>64)||decide (f.At.Items.length>1024)):=by
 unfold zcx zir
 have hw:zdw=zSx (fun (_:Unit) x=>zf8 x):=by
  funext x y
  unfold zdw zjA zSx zY1;rw [Fc.eta2]
 have:zcS l=IG (fun (_:Unit) x=>zf8 x) (l.length+(Int.ofNat l.length).toNat +Int.toNat (0:Int)+(1:Nat)) () l:=by
  unfold zcS zjR zjn;rw [hw]; rfl
 exact zkZ (this.trans (zJR _ _ _ _ _ (by omega) (fun x _=>by
  unfold zf8 zy5;rw [Wy.fin_i,Wy.fin_k,Wy.fin_k];have e:decide (Int.ofNat x.At.Items.length>(1024:Int))=decide (x.At.Items.length>1024):=zrq _ 1024;rw [e];cases decide (x.Exp>64) <;>rfl) (by omega)))
theorem z6O {d:Nat} {a:yC} (h:zp d a) (hd:d≤100) (hs:zN a≤4611686018427387904):zlE a=(true,zeD a):=by
 obtain ⟨h1,h2⟩:a.length≤1000000∧∀ t∈a,t.Fs.length≤1000000:=by
  cases d with
  | zero=>exact h.elim
  | succ d=>exact ⟨h.1,fun t ht=>(h.2 t ht).1⟩
 have h3:zcp a=(true,a.any fun t=> !zCH t):=by
  unfold zcp zhV;have:zdS a=IG (fun (_:Unit) x=>zll x) (a.length+(Int.ofNat a.length).toNat +Int.toNat (0:Int)+(1:Nat)) () a:=rfl
  exact zkZ (this.trans (zJR _ _ _ _ _ (by omega) (fun x hx=>by
   unfold zll zCu;rw [Wy.fin_i,Wy.fin_k,Wy.fin_bn,zbbP _ (h2 x hx)];have e:decide (Int.ofNat x.Fs.length>(64:Int))=decide (x.Fs.length>64):=zrq _ 64;rw [e];unfold zCH;cases decide (x.Fs.length>64) <;>simp [Wy.fin_k]) (by omega)))
 unfold zlE zFy;have n1:zAm a=(true,(zbs a:Int)):=(z5G 1000 d a h (by omega) hd).1
 have n2:zEx a=(true,(zN a:Int)):=(z19 1000 d a h (by omega) hs).1
 simp only [Wy.fin_i,Wy.fin_k,Wy.fin_bn,n1,n2,h3,cond_true];have e1:decide (Int.ofNat a.length>(512:Int))= !decide (a.length≤512):=by rw [show decide (Int.ofNat a.length>(512:Int))=decide (a.length>512) from zrq _ 512]; exact zQs _ _
 have e2:decide ((zbs a:Int)>(8:Int))= !decide (zbs a≤8):=by rw [show decide ((zbs a:Int)>(8:Int))=decide (zbs a>8) from zrq _ 8]; exact zQs _ _
 have e3:decide ((zN a:Int)>(4096:Int))= !decide (zN a≤4096):=by rw [show decide ((zN a:Int)>(4096:Int))=decide (zN a>4096) from zrq _ 4096]; exact zQs _ _
 have e4:(a.any fun t=> !zCH t)= !a.all zCH:=by simp [List.all_eq_not_any_not]
 rw [e1,e2,e3,e4];unfold zeD;cases decide (a.length≤512) <;>cases decide (zbs a≤8) <;>cases decide (zN a≤4096) <;>simp
theorem zbhz (a:yC) (i:Nat) (hi:i<a.length) (hl:(a.getD i default).Fs.length≤1000000) (fuel:Nat) (hf:(a.getD i default).Fs.length<fuel):
  zUB fuel a i 0=(true,bif (a.getD i default).Fs.any fun f=>decide (f.Exp>64)||decide (f.At.Items.length>1024) then .inl false else .inr (a,(i:Int))):=by
 have:=zd7 (W:=zJd) (z:=.inl default) (a.getD i default).Fs.length (fun k=>(a,(i:Int),(k:Int),())) (fun _=>()) (fun k=>(fun f:Fc=> !(decide (f.Exp>64)||decide (f.At.Items.length>1024))) ((a.getD i default).Fs.getD k default)) (.inl false) (.inr (a,(i:Int)))
  (fun k hk H K D=>by
   show (zyg a i k).ev H K D=_;unfold zyg;simp only [Wy.ev_i,Wy.ev_k,Wy.ev_h,Wy.ev_bn,Wy.ev_d,tT,hi,hk];rw [zV (by omega),show decide ((((a.getD i default).Fs.getD k default).At.Items.length:Int)>(1024:Int))=_ from zrq _ 1024]
   cases decide (((a.getD i default).Fs.getD k default).Exp>64) <;>cases decide (1024<((a.getD i default).Fs.getD k default).At.Items.length) <;>rfl)
  (fun H K D=>by
   show (zyg a i (a.getD i default).Fs.length).ev H K D=_;unfold zyg;simp only [Wy.ev_i,Wy.ev_k,Wy.ev_h,Wy.ev_bn,Wy.ev_d,tT,hi,Nat.lt_irrefl]) fuel hf
 rw [zAn (fun f:Fc=> !(decide (f.Exp>64)||decide (f.At.Items.length>1024)))] at this
 have e:((a.getD i default).Fs.all fun f=> !(decide (f.Exp>64)||decide (f.At.Items.length>1024)))= !((a.getD i default).Fs.any fun f=>decide (f.Exp>64)||decide (f.At.Items.length>1024)):=by simp [List.all_eq_not_any_not]
 rw [e] at this;refine this.trans ?_;cases (a.getD i default).Fs.any fun f=>decide (f.Exp>64)||decide (f.At.Items.length>1024) <;>rfl
theorem zbaZ {d:Nat} {a:yC} (h:zp d a) (hd:d≤100) (hs:zN a≤4611686018427387904):zA2 a=(true,zeD a):=by
 obtain ⟨h1,h2⟩:a.length≤1000000∧∀ t∈a,t.Fs.length≤1000000:=by
  cases d with
  | zero=>exact h.elim
  | succ d=>exact ⟨h.1,fun t ht=>(h.2 t ht).1⟩
 have h3:zU4 ((a.length+Int.toNat (0:Int)+(1:Nat))+zb2 a) a 0=(true,bif a.all zCH then .inr () else .inl false):=by
  have:=zd7 (W:=zIE) (z:=.inl default) a.length (fun k=>(a,(k:Int),())) (fun _=>()) (fun k=>zCH (a.getD k default)) (.inl false) (.inr ())
   (fun k hk H K D=>by
    show (zxE a k).ev H K D=_;unfold zxE;have h4:=h2 _ (zu hk);have h5:=zLR a k hk;simp only [Wy.ev_i,Wy.ev_k,Wy.ev_h,Wy.ev_bn,Wy.ev_d,tT,hk];rw [zbhz a k hk h4 _ (by omega)]
    have e:decide (((a.getD k default).Fs.length:Int)>(64:Int))=decide ((a.getD k default).Fs.length>64):=zrq _ 64;rw [e];unfold zCH;cases decide ((a.getD k default).Fs.length>64) <;>cases ((a.getD k default).Fs.any fun f=>decide (f.Exp>64)||decide (f.At.Items.length>1024))
    ·simp only [cond_false,cond_true,isL,getR]; rw [zV (by omega)]; rfl
    all_goals rfl)
   (fun H K D=>by
    show (zxE a a.length).ev H K D=_;unfold zxE;simp only [Wy.ev_i,Wy.ev_k,Wy.ev_h,Wy.ev_bn,Wy.ev_d,tT,Nat.lt_irrefl]) ((a.length+Int.toNat (0:Int)+(1:Nat))+zb2 a) (by omega)
  rw [zAn] at this;exact this
 unfold zA2 zYB;have n1:zI0 a=(true,(zbs a:Int)):=(z5G 1000 d a h (by omega) hd).2
 have n2:zS0 a=(true,(zN a:Int)):=(z19 1000 d a h (by omega) hs).2
 simp only [Wy.fin_i,Wy.fin_k,Wy.fin_bn,n1,n2,h3,cond_true];have e1:decide (Int.ofNat a.length>(512:Int))= !decide (a.length≤512):=by rw [show decide (Int.ofNat a.length>(512:Int))=decide (a.length>512) from zrq _ 512]; exact zQs _ _
 have e2:decide ((zbs a:Int)>(8:Int))= !decide (zbs a≤8):=by rw [show decide ((zbs a:Int)>(8:Int))=decide (zbs a>8) from zrq _ 8]; exact zQs _ _
 have e3:decide ((zN a:Int)>(4096:Int))= !decide (zN a≤4096):=by rw [show decide ((zN a:Int)>(4096:Int))=decide (zN a>4096) from zrq _ 4096]; exact zQs _ _
 rw [e1,e2,e3];unfold zeD;cases decide (a.length≤512) <;>cases decide (zbs a≤8) <;>cases decide (zN a≤4096) <;>cases a.all zCH <;>simp [isL,getL]
def zvC (v:Value):Bool:=(v.Kind==0&&v.Text.size==0)||(v.Kind==1&&v.Int==0&&decide (v.Text.size≤255))||(v.Kind==2&&v.Text.size==0&&(v.Int==0||v.Int==1))
theorem z9f (s:ByteArray):(s.toList==(ByteArray.mk #[]).toList)=(s.size==0):=by
 rw [zXx];by_cases h:s.size=0
 ·have:s=ByteArray.mk #[]:=zHU (by
   have:s.data.toList.length=0:=by simpa using h
   rw [List.length_eq_zero_iff.1 this])
  subst this; rfl
 ·have:¬ s=ByteArray.mk #[]:=fun e=>h (by rw [e]; rfl)
  simp [h,this]
theorem zGl (v:Value):zuF v=(true,zvC v):=by
 unfold zuF zUx zvC;simp only [z9f,Wy.fin_i,Wy.fin_k,zgv,z1x];have e:decide (Int.ofNat v.Text.size≤(255:Int))=decide (v.Text.size≤255):=zCa _ 255;rw [e];by_cases h0:v.Kind=0
 ·simp [h0]
 ·by_cases h1:v.Kind=1
  ·by_cases h2:v.Int=0 <;>simp [h1,h2]
  ·by_cases h2:v.Kind=2
   ·by_cases h3:v.Int=0
    ·simp [h2,h3]
    ·by_cases h4:v.Int=1 <;>simp [h2,h3,h4]
   ·simp [h0,h1,h2]
theorem zRH (v:Value):zyn v=(true,zvC v):=by
 unfold zyn zU3 zvC;simp only [z9f,Wy.fin_i,Wy.fin_k,zgv,z1x];have e:decide (Int.ofNat v.Text.size≤(255:Int))=decide (v.Text.size≤255):=zCa _ 255;rw [e];by_cases h0:v.Kind=0
 ·simp [h0]
 ·by_cases h1:v.Kind=1
  ·by_cases h2:v.Int=0 <;>simp [h1,h2]
  ·by_cases h2:v.Kind=2
   ·by_cases h3:v.Int=0
    ·by_cases h4:v.Text.size=0 <;>simp [h2,h3,h4]
    ·by_cases h4:v.Text.size=0 <;>simp [h2,h3,h4]
   ·simp [h0,h1,h2]
def zLH (fn:Int) (b:Value) (w:Wd):Bool:=zvC w.Value&&(w.Value.Kind==b.Kind)&& !(fn==0&&w.Value.Int != 1)
def zBE (fn:Int) (l:yE) (op:Int) (b:Value):Bool:=decide (0≤fn)&&decide (fn≤3)&&decide (5≤op)&&decide (op≤10)&&zvC b&& !(decide (fn≤1)&&b.Kind != 0)&&l.all (zLH fn b)
theorem zbfb (l:yE) (fn:Int) (b:Value) (h:l.length≤1000000):zbB l b fn=(true, !l.all (zLH fn b)):=by
 unfold zbB zgQ;have:zdo l b fn=IG (fun (g:Value×(Int×Unit)×Unit) x=>zhw x g.1 g.2.1.1) (l.length+fn.toNat +(Int.ofNat l.length).toNat +Int.toNat (0:Int)+(1:Nat)) (b,(fn,()),()) l:=rfl
 have e:(!l.all (zLH fn b))=l.any fun w=> !zLH fn b w:=by simp [List.all_eq_not_any_not]
 rw [e]
 exact zkZ (this.trans (zJR _ _ _ _ _ (by omega) (fun x _=>by
  show zhw x b fn=_;unfold zhw zBr zLH;simp only [Wy.fin_i,Wy.fin_k,Wy.fin_bn,zGl,cond_true,zgv,zvI];cases zvC x.Value <;>by_cases h1:x.Value.Kind=b.Kind <;>by_cases h2:fn=0 <;>simp [zgv,zvI,h1,h2]) (by omega)))
theorem z4r (fn:Int) (l:yE) (op:Int) (b:Value) (h:l.length≤1000000):zkB fn l op b=(true,zBE fn l op b):=by
 unfold zkB zEL zBE;simp only [Wy.fin_i,Wy.fin_k,Wy.fin_bn,zGl,zbfb l fn b h,cond_true,zgv,zvI];by_cases h1:fn<0
 ·have:¬ (0≤fn):=by omega
  simp [h1,this]
 by_cases h2:3<fn
 ·have:¬ (fn≤3):=by omega
  simp [h1,h2,this]
 by_cases h3:op<5
 ·have:¬ (5≤op):=by omega
  simp [h1,h2,h3,this]
 by_cases h4:10<op
 ·have:¬ (op≤10):=by omega
  simp [h1,h2,h3,h4,this]
 have g1:0≤fn:=by omega
 have g2:fn≤3:=by omega
 have g3:5≤op:=by omega
 have g4:op≤10:=by omega
 cases zvC b with
 | false=>simp [h1,h2,h3,h4]
 | true=>
  by_cases h5:fn=0
  ·subst h5; by_cases h6:b.Kind=0 <;>simp [h3,h4,h6,g3,g4]
  ·by_cases h7:fn=1
   ·subst h7; by_cases h6:b.Kind=0 <;>simp [h3,h4,h6,g3,g4]
   ·have:¬ fn≤1:=by omega
    simp [h1,h2,h3,h4,h5,h7,this,g1,g2,g3,g4]
theorem zbai (fn:Int) (l:yE) (op:Int) (b:Value) (h:l.length≤1000000):zyj fn l op b=(true,zBE fn l op b):=by
 unfold zyj zUH zBE
 have hl:zGC (fn.toNat +l.length+Int.toNat (0:Int)+(1:Nat)) fn l (0:Int) b=(true,bif l.all (zLH fn b) then .inr () else .inl false):=by
  have:=zd7 (W:=zGK) (z:=.inl default) l.length (fun k=>(fn,l,(),(k:Int),())) (fun _=>(b,())) (fun k=>zLH fn b (l.getD k default)) (.inl false) (.inr ())
   (fun k hk H K D=>by
    show (zvr fn l k b).ev H K D=_;unfold zvr zLH;simp only [Wy.ev_i,Wy.ev_k,Wy.ev_h,Wy.ev_bn,Wy.ev_d,tT,hk,zRH,zgv,zvI];rw [zV (by omega)]
    cases zvC (l.getD k default).Value <;>cases decide ((l.getD k default).Value.Kind=b.Kind) <;>cases decide (fn=0) <;>cases decide ((l.getD k default).Value.Int=1) <;>rfl)
   (fun H K D=>by
    show (zvr fn l l.length b).ev H K D=_;unfold zvr;simp only [Wy.ev_i,Wy.ev_k,Wy.ev_h,Wy.ev_bn,Wy.ev_d,tT,Nat.lt_irrefl]) (fn.toNat +l.length+Int.toNat (0:Int)+(1:Nat)) (by omega)
  rw [zAn] at this;exact this
 simp only [Wy.fin_i,Wy.fin_k,Wy.fin_bn,zRH,hl,cond_true,zgv,zvI];by_cases h1:fn<0
 ·have:¬ (0≤fn):=by omega
  simp [h1,this]
 by_cases h2:3<fn
 ·have:¬ (fn≤3):=by omega
  simp [h1,h2,this]
 by_cases h3:op<5
 ·have:¬ (5≤op):=by omega
  simp [h1,h2,h3,this]
 by_cases h4:10<op
 ·have:¬ (op≤10):=by omega
  simp [h1,h2,h3,h4,this]
 have g1:0≤fn:=by omega
 have g2:fn≤3:=by omega
 have g3:5≤op:=by omega
 have g4:op≤10:=by omega
 cases zvC b with
 | false=>simp [h1,h2,h3,h4]
 | true=>
  by_cases h5:fn≤1
  ·by_cases h6:b.Kind=0
   ·cases l.all (zLH fn b) <;>simp [h1,h2,h3,h4,h5,h6,g1,g2,g3,g4,isL,getL]
   ·simp [h1,h2,h3,h4,h5,h6,g1,g2,g3,g4]
  ·cases l.all (zLH fn b) <;>simp [h1,h2,h3,h4,h5,g1,g2,g3,g4,isL,getL]
def bz (b:Value):Bool:=b.Kind==(0:Int)&&(b.Int==(0:Int)&&(b.Text.toList==(ByteArray.mk #[]).toList&&true))
def plA (x:At):Bool:=x.Func==0&&(x.Items.length==0)&&x.Op==0&&bz x.Bd
theorem zbeg (x:At):zpS x=(true,plA x):=by
 unfold zpS zUF plA;simp only [Wy.fin_i,Wy.fin_k,Int.ofNat_eq_natCast,i0];show _=(true,_&&_&&_&&bz x.Bd);rw [show (x.Bd.Kind==(0:Int)&&(x.Bd.Int==(0:Int)&&(x.Bd.Text.toList==(ByteArray.mk #[]).toList&&true)))=bz x.Bd from rfl]
 cases x.Func==0 <;>cases x.Items.length==0 <;>cases x.Op==0 <;>rfl
def zTA (l:yE) (k:Nat):Bool:=decide (k=0)||decide (zbc (zbf (l.getD (k - 1) default)) (zbf (l.getD k default))≤0)
def zXU (l:yE):Bool:=zeV (zTA l) l.length 0
theorem z6R (c:Nat→Bool):∀ n i,zeV c (n+1) i=(zeV c n i&&c (i+n))
 | 0,i=>by simp [zeV]
 | n+1,i=>by
  rw [zeV,z6R c n (i+1),zeV,show i+1+n=i+(n+1) by omega,Bool.and_assoc]
theorem zUV {d:Nat} (l:yE) (hl:l.length≤1000000) (h:∀ w∈l,zp d w.Ann) (hd:d≤99):∀ (n i:Nat),i<l.length→i<n→zew n l i=(true,bif zeV (zTA l) (i+1) 0 then .inr () else .inl false)
 | 0,i,hi,hn=>by omega
 | n+1,i,hi,hn=>by
  show (zev l i).ev (fun x y=>zew n x.1 x.2.2.1) (fun r=>(true,r)) (false,.inl default)=_
  unfold zev;have hg:decide ((i:Int)>(0:Int))=decide (0<i):=zrq i 0;cases i with
  | zero=>simp [Wy.ev_i,Wy.ev_k,zeV,zTA]
  | succ i=>
   have hi':i<l.length:=by omega
   have hw:IntKind.i64.wrap (((i+1:Nat):Int) - 1)=(i:Int):=by rw [zzP (by omega) (by omega)]; rfl
   have hp:decide (0<i+1)=true:=by simp
   simp only [Wy.ev_i,Wy.ev_k,Wy.ev_h,Wy.ev_bn,Wy.ev_d,hg,hp,hw,tT,hi,hi',zj2 (h _ (zu hi)) hd];rw [zUV l hl h hd n i hi' (by omega),z6R _ (i+1),Nat.zero_add]
   have:zTA l (i+1)= !decide (zbc (zbf (l.getD (i+1) default)) (zbf (l.getD i default))<0):=by
    unfold zTA;rw [show i+1 - 1=i from rfl,zgX (zbf (l.getD (i+1) default)) (zbf (l.getD i default))]
    generalize zbc (zbf (l.getD (i+1) default)) (zbf (l.getD i default))=z;by_cases hz:z<0
    ·have:¬ (-z≤0):=by omega
     simp [hz,this]
    ·have:(-z≤0):=by omega
     simp [hz,this]
   rw [this];cases decide (zbc (zbf (l.getD (i+1) default)) (zbf (l.getD i default))<0) <;>simp
theorem zbas {d:Nat} (l:yE) (hl:l.length≤1000000) (h:∀ w∈l,zp d w.Ann) (hd:d≤99):zco l=(true,zXU l):=by
 unfold zco zh1 zXU
 match l,hl,h with
 | [],_,_=>rfl
 | x::r,hl,h=>
  have hw:IntKind.i64.wrap (Int.ofNat (x::r).length - 1)=(r.length:Int):=by
   rw [qf] at hl;rw [show Int.ofNat (x::r).length=(((x::r).length:Nat):Int) from rfl,zzP (by simp) (by simp; omega)]; rfl
  rw [Wy.fin_bn,hw,zUV (x::r) hl h hd _ r.length (by simp) (by simp; omega)]
  cases zeV (zTA (x::r)) (r.length+1) 0 with
  | true=>simp [Wy.fin_i,Wy.fin_k,isL]
  | false=>simp [Wy.fin_i,Wy.fin_k,isL,getL]
end Go.Proofs.YtljlfiomikifjaaGreatDoor
end
