/- Texts of this claim, joined (the program, its functions in plain words, and what they compute). -/
import Derived.Test.YtljlfiomikifjaaGreatDoorGC6
set_option autoImplicit false
set_option linter.unusedVariables false
set_option linter.unusedSectionVars false
set_option linter.unusedSimpArgs false
set_option maxRecDepth 1000000
set_option maxHeartbeats 0
/- What the laws examine: annotations of small weight. -/
noncomputable section
namespace Go.Proofs.YtljlfiomikifjaaGreatDoor
open Go Go.Ab
theorem zol:∀ {l:yD},ztU l→∀ x∈l,zwU x
 | [],_,x,hx=>by cases hx
 | y::r,h,x,hx=>by
  unfold ztU at h;rcases qd.1 hx with rfl | hx
  ·exact h.1
  ·exact zol h.2 x hx
theorem ztF:∀ {l:yC},zgr l→∀ x∈l,zB2 x
 | [],_,x,hx=>by cases hx
 | y::r,h,x,hx=>by
  unfold zgr at h;rcases qd.1 hx with rfl | hx
  ·exact h.1
  ·exact ztF h.2 x hx
theorem zjX:∀ {l:yA},zxF l→∀ x∈l,zgr x∧x.length≤roomLen
 | [],_,x,hx=>by cases hx
 | y::r,h,x,hx=>by
  unfold zxF at h;rcases qd.1 hx with rfl | hx
  ·exact h.1
  ·exact zjX h.2 x hx
theorem zh5:∀ {l:yE},zs9 l→∀ x∈l,wf65 x.Value∧zgr x.Ann∧x.Ann.length≤roomLen
 | [],_,x,hx=>by cases hx
 | y::r,h,x,hx=>by
  unfold zs9 at h;rcases qd.1 hx with rfl | hx
  ·have:=h.1; unfold zHG at this; exact ⟨this.1,this.2.1,this.2.2⟩
  ·exact zh5 h.2 x hx
theorem zwY {t:Term} (h:zB2 t):wf2 t.Coeff∧ztU t.Factors∧t.Factors.length≤roomLen:=by
 unfold zB2 at h; exact ⟨h.1,h.2.1,h.2.2⟩
theorem zqH {t:Factor} (h:zwU t):zgg t.Atom∧wf3 t.Exp:=by
 unfold zwU at h; exact h
theorem zpf {x:Atom} (h:zgg x):(zxF x.Args∧x.Args.length≤roomLen)∧(zs9 x.Items∧x.Items.length≤roomLen)∧wf65 x.Bound∧wf3 x.Kind∧wf49 x.Row∧wf3 x.Func∧wf3 x.Op:=by
 obtain ⟨k,r,a,f,i,o,b⟩:=x; unfold zgg at h; exact ⟨h.2.2.1,h.2.2.2.2.1,h.2.2.2.2.2.2,h.1,h.2.1,h.2.2.2.1,h.2.2.2.2.2.1⟩
theorem zjt {z:Int} (h0: -4611686018427387904≤z) (h:z<4611686018427387904):IntKind.i64.wrap z=z:=zW9 (by omega) (by omega)
mutual
def zF4:Atom→Nat
 | ⟨_,_,a,_,i,_,b⟩=>i.length+a.length+b.Text.size+zqe a+zlm i
def zg9:yD→Nat
 | []=>0
 | ⟨x,_⟩::r=>zF4 x+zg9 r
def zek:yC→Nat
 | []=>0
 | ⟨_,fs⟩::r=>1+fs.length+zg9 fs+zek r
def zqe:yA→Nat
 | []=>0
 | a::r=>zek a+zqe r
def zlm:yE→Nat
 | []=>0
 | ⟨v,a⟩::r=>v.Text.size+zek a+zlm r
end
theorem z2q (x:Atom):zF4 x=x.Items.length+x.Args.length+x.Bound.Text.size+zqe x.Args+zlm x.Items:=by cases x; rw [zF4]
theorem zM9 (f:Factor) (r:yD):zg9 (f::r)=zF4 f.Atom+zg9 r:=by cases f; rw [zg9]
theorem zNU (t:Term) (r:yC):zek (t::r)=1+t.Factors.length+zg9 t.Factors+zek r:=by cases t; rw [zek]
theorem zW2 (a:yC) (r:yA):zqe (a::r)=zek a+zqe r:=by rw [zqe]
theorem zIk (w:Weighted) (r:yE):zlm (w::r)=w.Value.Text.size+zek w.Ann+zlm r:=by cases w; rw [zlm]
theorem z8X:zqe []=0:=by rw [zqe]
theorem z6L:zlm []=0:=by rw [zlm]
theorem z2Q:zg9 []=0:=by rw [zg9]
theorem zbaE:zek []=0:=by rw [zek]
section
variable (g:yC→Int→Int→Bool×Int) (a:yC) (limit d:Nat) (hl:limit≤1000) (hd:d≤100) (B:Nat) (hB:B≤1152921504606846976) (P:yC→Prop)
include hl hd hB
theorem w14 (x:Atom) (i k:Int) (hlen:x.Args.length≤roomLen) (hg:∀ y∈x.Args,∀ l:Nat,l≤1000→∃ w:Nat,g y l d=(true,(w:Int))∧w≤B∧(w≤l→P y∧zek y≤w)):
  ∀ (fuel j n:Nat),x.Args.length<j+fuel→j≤x.Args.length→n≤2305843009213693952→∃ n':Nat,zzL g fuel a limit (d+1:Nat) n i k j x=(true,(a,(limit:Int),((d+1:Nat):Int),(n':Int),i,k,x))∧n≤n'∧n'≤max n (limit+B)∧(n'≤limit→(∀ y∈x.Args.drop j,P y)∧n+zqe (x.Args.drop j)≤n')
 | 0,j,n,h1,h2,h3=>by omega
 | fuel+1,j,n,h1,h2,h3=>by
  show ∃ n':Nat,(zAe g a limit (d+1:Nat) n i k j x).ev (fun x y=>zzL g fuel x.1 x.2.1 x.2.2.1 x.2.2.2.1 x.2.2.2.2.1 x.2.2.2.2.2.1 x.2.2.2.2.2.2.2.1 y.1) (fun r=>(true,r)) (false,default)=_∧_
  unfold zAe;have hml:roomLen=140737488351232:=rfl;by_cases hj:j<x.Args.length
  ·by_cases hn:n≤limit
   ·have e1:IntKind.i64.wrap ((limit:Int) - (n:Int))=((limit - n:Nat):Int):=by rw [zjt (by omega) (by omega)]; omega
    obtain ⟨w,hw,hwB,hwP⟩:=hg _ (zt hj) (limit - n) (by omega)
    have ed:IntKind.i64.wrap (((d+1:Nat):Int) - 1)=(d:Int):=by rw [zjt (by omega) (by omega)]; omega
    simp only [Wy.ev_i,Wy.ev_k,Wy.ev_h,Wy.ev_bn,Wy.ev_d,tT,hj,zBM,hn,e1,ed,hw];have e3:IntKind.i64.wrap ((n:Int)+(w:Int))=((n+w:Nat):Int):=by rw [zjt (by omega) (by omega)]; omega
    rw [e3,zR (by omega)]
    obtain ⟨n',h4,h5,h6,h7⟩:=w14 x i k hlen hg fuel (j+1) (n+w) (by omega) (by omega) (by omega)
    refine ⟨n',h4,by omega,by omega,fun hn'=> ?_⟩
    obtain ⟨h8,h9⟩:=h7 hn';obtain ⟨p1,p2⟩:=hwP (by omega)
    rw [zbB hj,zW2];refine ⟨fun y hy=> ?_,by omega⟩
    rcases qd.1 hy with rfl | hy
    ·exact p1
    ·exact h8 y hy
   ·simp only [Wy.ev_i,Wy.ev_k,Wy.ev_h,Wy.ev_bn,Wy.ev_d,tT,hj,zBM,hn];exact ⟨n,rfl,Nat.le_refl _,by omega,fun h=>absurd h hn⟩
  ·simp only [Wy.ev_i,Wy.ev_k,Wy.ev_h,Wy.ev_bn,Wy.ev_d,tT,hj];exact ⟨n,rfl,Nat.le_refl _,by omega,fun _=>by rw [zc2 hj,z8X]; exact ⟨fun y hy=>(by cases hy),Nat.le_refl _⟩⟩
theorem w18 (x:Atom) (i k:Int) (hlen:x.Items.length≤roomLen) (hg:∀ y∈x.Items,y.Value.Text.size≤roomLen∧∀ l:Nat,l≤1000→∃ w:Nat,g y.Ann l d=(true,(w:Int))∧w≤B∧(w≤l→P y.Ann∧zek y.Ann≤w)):
  ∀ (fuel j n:Nat),x.Items.length<j+fuel→j≤x.Items.length→n≤2305843009213693952→∃ n':Nat,zAt g fuel a limit (d+1:Nat) n i k j x=(true,(a,(limit:Int),((d+1:Nat):Int),(n':Int),i,k))∧n≤n'∧n'≤max n (limit+roomLen+B)∧(n'≤limit→(∀ y∈x.Items.drop j,y.Value.Text.size≤1000∧P y.Ann)∧n+zlm (x.Items.drop j)≤n')
 | 0,j,n,h1,h2,h3=>by omega
 | fuel+1,j,n,h1,h2,h3=>by
  show ∃ n':Nat,(zz6 g a limit (d+1:Nat) n i k j x).ev (fun x y=>zAt g fuel x.1 x.2.1 x.2.2.1 x.2.2.2.1 x.2.2.2.2.1 x.2.2.2.2.2.1 x.2.2.2.2.2.2.2.1 y.1) (fun r=>(true,r)) (false,default)=_∧_
  unfold zz6;have hml:roomLen=140737488351232:=rfl;by_cases hj:j<x.Items.length
  ·by_cases hn:n≤limit
   ·have e1:IntKind.i64.wrap ((limit:Int) - (n:Int))=((limit - n:Nat):Int):=by rw [zjt (by omega) (by omega)]; omega
    obtain ⟨ht,hgy⟩:=hg _ (zt hj);obtain ⟨w,hw,hwB,hwP⟩:=hgy (limit - n) (by omega)
    have ed:IntKind.i64.wrap (((d+1:Nat):Int) - 1)=(d:Int):=by rw [zjt (by omega) (by omega)]; omega
    simp only [Wy.ev_i,Wy.ev_k,Wy.ev_h,Wy.ev_bn,Wy.ev_d,tT,hj,zBM,hn,e1,ed,hw];generalize hsz:(x.Items.getD j default).Value.Text.size=sz at *;have e3:IntKind.i64.wrap (IntKind.i64.wrap ((n:Int)+(sz:Int))+(w:Int))=((n+sz+w:Nat):Int):=by rw [zjt (z:=(n:Int)+(sz:Int)) (by omega) (by omega),zjt (by omega) (by omega)]; omega
    rw [e3,zR (by omega)]
    obtain ⟨n',h4,h5,h6,h7⟩:=w18 x i k hlen hg fuel (j+1) (n+sz+w) (by omega) (by omega) (by omega)
    refine ⟨n',h4,by omega,by omega,fun hn'=> ?_⟩
    obtain ⟨h8,h9⟩:=h7 hn';obtain ⟨p1,p2⟩:=hwP (by omega)
    rw [zbB hj,zIk];refine ⟨fun y hy=> ?_,by omega⟩
    rcases qd.1 hy with rfl | hy
    ·exact ⟨by omega,p1⟩
    ·exact h8 y hy
   ·simp only [Wy.ev_i,Wy.ev_k,Wy.ev_h,Wy.ev_bn,Wy.ev_d,tT,hj,zBM,hn];exact ⟨n,rfl,Nat.le_refl _,by omega,fun h=>absurd h hn⟩
  ·simp only [Wy.ev_i,Wy.ev_k,Wy.ev_h,Wy.ev_bn,Wy.ev_d,tT,hj];exact ⟨n,rfl,Nat.le_refl _,by omega,fun _=>by rw [zc2 hj,z6L]; exact ⟨fun y hy=>(by cases hy),Nat.le_refl _⟩⟩
theorem w9 (i:Nat) (hi:i<a.length) (hla:(a.getD i default).Factors.length≤roomLen) (hg:∀ f∈(a.getD i default).Factors,f.Atom.Args.length≤roomLen∧f.Atom.Items.length≤roomLen∧f.Atom.Bound.Text.size≤roomLen∧(∀ y∈f.Atom.Args,∀ l:Nat,l≤1000→∃ w:Nat,g y l d=(true,(w:Int))∧w≤B∧(w≤l→P y∧zek y≤w))∧
   ∀ y∈f.Atom.Items,y.Value.Text.size≤roomLen∧∀ l:Nat,l≤1000→∃ w:Nat,g y.Ann l d=(true,(w:Int))∧w≤B∧(w≤l→P y.Ann∧zek y.Ann≤w)):
  ∀ (fuel k n:Nat),(a.getD i default).Factors.length<k+fuel→k≤(a.getD i default).Factors.length→n≤2305843009213693952→∃ n':Nat,zBc g fuel a limit (d+1:Nat) n i k=(true,(a,(limit:Int),((d+1:Nat):Int),(n':Int),(i:Int)))∧n≤n'∧n'≤max n (limit+4*roomLen+B)∧
   (n'≤limit→(∀ f∈(a.getD i default).Factors.drop k,(f.Atom.Args.length≤1000∧f.Atom.Items.length≤1000∧f.Atom.Bound.Text.size≤1000)∧(∀ y∈f.Atom.Args,P y)∧∀ y∈f.Atom.Items,y.Value.Text.size≤1000∧P y.Ann)∧n+zg9 ((a.getD i default).Factors.drop k)≤n')
 | 0,k,n,h1,h2,h3=>by omega
 | fuel+1,k,n,h1,h2,h3=>by
  show ∃ n':Nat,(zBm g a limit (d+1:Nat) n i k).ev (fun x y=>zBc g fuel x.1 x.2.1 x.2.2.1 x.2.2.2.1 x.2.2.2.2.1 x.2.2.2.2.2.1) (fun r=>(true,r)) (false,default)=_∧_
  unfold zBm;have hml:roomLen=140737488351232:=rfl;by_cases hk:k<(a.getD i default).Factors.length
  ·by_cases hn:n≤limit
   ·simp only [Wy.ev_i,Wy.ev_k,Wy.ev_h,Wy.ev_bn,Wy.ev_d,tT,hi,hk,zBM,hn,Atom.eta];obtain ⟨ha1,ha2,ha3,hgA,hgI⟩:=hg _ (zt hk);generalize hf:((a.getD i default).Factors.getD k default)=f at *
    have e0:IntKind.i64.wrap (IntKind.i64.wrap (IntKind.i64.wrap ((n:Int)+(f.Atom.Items.length:Int))+(f.Atom.Args.length:Int))+(f.Atom.Bound.Text.size:Int))=((n+f.Atom.Items.length+f.Atom.Args.length+f.Atom.Bound.Text.size:Nat):Int):=by
     rw [zjt (z:=(n:Int)+(f.Atom.Items.length:Int)) (by omega) (by omega),zjt (z:=(n:Int)+(f.Atom.Items.length:Int)+(f.Atom.Args.length:Int)) (by omega) (by omega),zjt (by omega) (by omega)]; omega
    rw [e0];obtain ⟨n1,q1,q2,q3,q4⟩:=w14 g a limit d hl hd B hB P f.Atom i k ha1 hgA (a.length+limit+(d+1)+((n+f.Atom.Items.length+f.Atom.Args.length+f.Atom.Bound.Text.size:Nat):Int).toNat +i+k+Int.toNat 0+f.Atom.Args.length+f.Atom.Items.length+1) 0 (n+f.Atom.Items.length+f.Atom.Args.length+f.Atom.Bound.Text.size) (by omega) (by omega) (by omega)
    rw [show ((0:Nat):Int)=(0:Int) from rfl] at q1
    rw [q1];simp only [cond_true,Atom.eta,Int.toNat_natCast];obtain ⟨n2,r1,r2,r3,r4⟩:=w18 g a limit d hl hd B hB P f.Atom i k ha2 hgI (a.length+limit+(d+1)+n1+i+k+Int.toNat 0+f.Atom.Args.length+f.Atom.Items.length+1) 0 n1 (by omega) (by omega) (by omega)
    rw [show ((0:Nat):Int)=(0:Int) from rfl] at r1
    rw [r1];simp only [cond_true];rw [zR (by omega)]
    obtain ⟨n',h4,h5,h6,h7⟩:=w9 i hi hla hg fuel (k+1) n2 (by omega) (by omega) (by omega)
    refine ⟨n',h4,by omega,by omega,fun hn'=> ?_⟩
    obtain ⟨h8,h9⟩:=h7 hn';obtain ⟨q5,q6⟩:=q4 (by omega)
    obtain ⟨r5,r6⟩:=r4 (by omega)
    rw [List.drop_zero] at q5 q6 r5 r6;rw [zbB hk,zM9,hf,z2q];refine ⟨fun y hy=> ?_,by omega⟩
    rcases qd.1 hy with rfl | hy
    ·exact ⟨⟨by omega,by omega,by omega⟩,q5,r5⟩
    ·exact h8 y hy
   ·simp only [Wy.ev_i,Wy.ev_k,Wy.ev_h,Wy.ev_bn,Wy.ev_d,tT,hi,hk,zBM,hn];exact ⟨n,rfl,Nat.le_refl _,by omega,fun h=>absurd h hn⟩
  ·simp only [Wy.ev_i,Wy.ev_k,Wy.ev_h,Wy.ev_bn,Wy.ev_d,tT,hi,hk];exact ⟨n,rfl,Nat.le_refl _,by omega,fun _=>by rw [zc2 hk,z2Q]; exact ⟨fun y hy=>(by cases hy),Nat.le_refl _⟩⟩
theorem w5 (hla:∀ t∈a,t.Factors.length≤roomLen) (hg:∀ t∈a,∀ f∈t.Factors,f.Atom.Args.length≤roomLen∧f.Atom.Items.length≤roomLen∧f.Atom.Bound.Text.size≤roomLen∧(∀ y∈f.Atom.Args,∀ l:Nat,l≤1000→∃ w:Nat,g y l d=(true,(w:Int))∧w≤B∧(w≤l→P y∧zek y≤w))∧
   ∀ y∈f.Atom.Items,y.Value.Text.size≤roomLen∧∀ l:Nat,l≤1000→∃ w:Nat,g y.Ann l d=(true,(w:Int))∧w≤B∧(w≤l→P y.Ann∧zek y.Ann≤w)) (hlen:a.length≤roomLen):
  ∀ (fuel i n:Nat),a.length<i+fuel→i≤a.length→n≤2305843009213693952→∃ n':Nat,zBx g fuel a limit (d+1:Nat) n i=(true,(n':Int))∧n≤n'∧n'≤max n (limit+6*roomLen+B)∧
   (n'≤limit→(n+(a.length - i)≤n'∧n+zek (a.drop i)≤n')∧∀ t∈a.drop i,t.Factors.length≤1000∧∀ f∈t.Factors,(f.Atom.Args.length≤1000∧f.Atom.Items.length≤1000∧f.Atom.Bound.Text.size≤1000)∧(∀ y∈f.Atom.Args,P y)∧∀ y∈f.Atom.Items,y.Value.Text.size≤1000∧P y.Ann)
 | 0,i,n,h1,h2,h3=>by omega
 | fuel+1,i,n,h1,h2,h3=>by
  show ∃ n':Nat,(zBn g a limit (d+1:Nat) n i).ev (fun x y=>zBx g fuel x.1 x.2.1 x.2.2.1 x.2.2.2.1 x.2.2.2.2.1) (fun r=>(true,r)) (false,default)=_∧_
  unfold zBn;have hml:roomLen=140737488351232:=rfl;by_cases hi:i<a.length
  ·by_cases hn:n≤limit
   ·simp only [Wy.ev_i,Wy.ev_k,Wy.ev_h,Wy.ev_bn,Wy.ev_d,tT,hi,zBM,hn];have hla':=hla _ (zt hi)
    have e0:IntKind.i64.wrap (IntKind.i64.wrap ((n:Int)+1)+((a.getD i default).Factors.length:Int))=((n+1+(a.getD i default).Factors.length:Nat):Int):=by
     rw [zR (by omega),zjt (by omega) (by omega)]; omega
    rw [e0];obtain ⟨n1,q1,q2,q3,q4⟩:=w9 g a limit d hl hd B hB P i hi hla' (hg _ (zt hi)) (a.length+limit+(d+1)+((n+1+(a.getD i default).Factors.length:Nat):Int).toNat +i+Int.toNat 0+1) 0 (n+1+(a.getD i default).Factors.length) (by omega) (by omega) (by omega)
    rw [show ((0:Nat):Int)=(0:Int) from rfl] at q1
    rw [q1];simp only [cond_true];rw [zR (by omega)]
    obtain ⟨n',h4,h5,h6,h7⟩:=w5 hla hg hlen fuel (i+1) n1 (by omega) (by omega) (by omega)
    refine ⟨n',h4,by omega,by omega,fun hn'=> ?_⟩
    obtain ⟨⟨h8,h10⟩,h9⟩:=h7 hn';obtain ⟨q5,q6⟩:=q4 (by omega)
    rw [List.drop_zero] at q5 q6;rw [zbB hi,zNU];refine ⟨⟨by omega,by omega⟩,fun y hy=> ?_⟩
    rcases qd.1 hy with rfl | hy
    ·exact ⟨by omega,q5⟩
    ·exact h9 y hy
   ·simp only [Wy.ev_i,Wy.ev_k,Wy.ev_h,Wy.ev_bn,Wy.ev_d,tT,hi,zBM,hn];exact ⟨n,rfl,Nat.le_refl _,by omega,fun h=>absurd h hn⟩
  ·simp only [Wy.ev_i,Wy.ev_k,Wy.ev_h,Wy.ev_bn,Wy.ev_d,tT,hi];exact ⟨n,rfl,Nat.le_refl _,by omega,fun _=>by rw [zc2 hi,zbaE]; exact ⟨⟨by omega,Nat.le_refl _⟩,fun y hy=>(by cases hy)⟩⟩
end
theorem z4A:∀ (d N:Nat),d<N→d≤12→∀ (l:Nat),l≤1000→∀ a,zgr a→a.length≤roomLen→∃ w:Nat,zqo N a l d=(true,(w:Int))∧w≤(d+1)*4503599627370496∧(w≤l→zr d a∧zek a≤w)
 | _,0,h,_,_,_,_,_,_=>by omega
 | 0,N+1,_,_,l,hl,a,hw,hlen=>by
  rw [zJa];unfold zvz zCq;refine ⟨l+1, ?_,by omega,fun h=>by omega⟩
  simp only [Wy.fin_i,Wy.fin_k];rw [zR (by omega)]; rfl
 | d+1,N+1,hN,hd,l,hl,a,hw,hlen=>by
  rw [zJa];unfold zvz zCq;have hml:roomLen=140737488351232:=rfl;have ih:=fun y (h1:zgr y) (h2:y.length≤roomLen) l hl=>z4A d N (by omega) (by omega) l hl y h1 h2
  have e0:(((d+1:Nat):Int)==(0:Int))=false:=by
   rw [beq_eq_false_iff_ne]; omega
  obtain ⟨n',h1,h2,h3,h4⟩:=w5 (zqo N) a l d hl (by omega) ((d+1)*4503599627370496) (by omega) (zr d) (fun t ht=>(zwY (ztF hw t ht)).2.2) (fun t ht f hf=>by
   have hx:=zpf (zqH (zol (zwY (ztF hw t ht)).2.1 f hf)).1;refine ⟨hx.1.2,hx.2.1.2,hx.2.2.1.2.2,fun y hy l hl=> ?_,fun y hy=> ?_⟩
   ·have:=zjX hx.1.1 y hy;exact ih y this.1 this.2 l hl
   ·have:=zh5 hx.2.1.1 y hy;exact ⟨this.1.2.2,fun l hl=>ih y.Ann this.2.1 this.2.2 l hl⟩) hlen (a.length+l+(d+1)+Int.toNat 0+Int.toNat 0+1) 0 0 (by omega) (by omega) (by omega)
  rw [show ((0:Nat):Int)=(0:Int) from rfl] at h1
  refine ⟨n', ?_,by omega,fun hn=> ?_⟩
  ·simp only [Wy.fin_i,Wy.fin_k,Wy.fin_bn,e0,cond_false,Int.toNat_natCast,h1,cond_true]
  ·obtain ⟨⟨h5,h12⟩,h6⟩:=h4 hn;rw [List.drop_zero] at h12;refine ⟨⟨by omega,fun t ht=> ?_⟩,by omega⟩
   obtain ⟨h7,h8⟩:=h6 t (by simpa using ht)
   refine ⟨by omega,fun f hf=> ?_⟩
   obtain ⟨h9,h10,h11⟩:=h8 f hf;exact ⟨⟨by omega,by omega,by omega⟩,h10,fun w hw=>⟨by have:=(h11 w hw).1; omega,(h11 w hw).2⟩⟩
theorem z68 (limit:Nat) (hl:limit≤1000) (l:yA) (hll:l.length≤1000) (hw:∀ a∈l,zgr a∧a.length≤roomLen):∀ (n i:Nat),l.length<i+n→i≤l.length→∃ r,zKt n limit l i=(true,r)∧((r=.inl false)∨(r=.inr ()∧∀ a∈l.drop i,zr 12 a∧zek a≤limit))
 | 0,i,h1,h2=>by omega
 | n+1,i,h1,h2=>by
  show ∃ r,(zLR limit l i).ev (fun x y=>zKt n x.1 x.2.1 x.2.2.1) (fun r=>(true,r)) (false,.inl default)=(true,r)∧_
  unfold zLR;by_cases hi:i<l.length
  ·obtain ⟨w,q1,q2,q3⟩:=z4A 12 1000 (by omega) (by omega) limit hl _ (hw _ (zt hi)).1 (hw _ (zt hi)).2
   have q1':zL9 (l.getD i default) (limit:Int) 12=(true,(w:Int)):=q1;simp only [Wy.ev_i,Wy.ev_k,Wy.ev_h,Wy.ev_bn,Wy.ev_d,tT,hi,q1',zoK];by_cases hg:limit<w
   ·simp only [hg,decide_true,cond_true];exact ⟨_,rfl,.inl rfl⟩
   ·simp only [hg,decide_false,cond_false];rw [zR (by omega)]
    obtain ⟨r,h3,h4⟩:=z68 limit hl l hll hw n (i+1) (by omega) (by omega)
    refine ⟨r,h3, ?_⟩;rcases h4 with h4 | ⟨h4,h5⟩
    ·exact .inl h4
    ·refine .inr ⟨h4,fun a ha=> ?_⟩
     rw [zbB hi] at ha;rcases qd.1 ha with rfl | ha
     ·exact ⟨(q3 (by omega)).1,by have:=(q3 (by omega)).2; omega⟩
     ·exact h5 a ha
  ·simp only [Wy.ev_i,Wy.ev_k,Wy.ev_h,Wy.ev_bn,Wy.ev_d,tT,hi];exact ⟨_,rfl,.inr ⟨rfl,fun a ha=>by rw [zc2 hi] at ha; cases ha⟩⟩
theorem zbfX (limit:Nat) (hl:limit≤1000) (l:yA) (hll:l.length≤1000) (hw:∀ a∈l,zgr a∧a.length≤roomLen):∃ b,ztj limit l=(true,b)∧(b=true→∀ a∈l,zr 12 a∧zek a≤limit):=by
 unfold ztj zZu;obtain ⟨r,h1,h2⟩:=z68 limit hl l hll hw (limit+l.length+Int.toNat 0+1) 0 (by omega) (by omega)
 rw [show ((0:Nat):Int)=(0:Int) from rfl] at h1
 rw [Wy.fin_bn];simp only [Int.toNat_natCast,h1,cond_true];rcases h2 with rfl | ⟨rfl,h2⟩
 ·exact ⟨false,rfl,fun h=>by cases h⟩
 ·exact ⟨true,rfl,fun _ a ha=>h2 a (by simpa using ha)⟩
mutual
def ze4:Atom→Nat
 | ⟨_,_,a,_,i,_,_⟩=>zfb a+zdm i
def zbI:yD→Nat
 | []=>0
 | ⟨x,_⟩::r=>ze4 x+zbI r
def zN:yC→Nat
 | []=>0
 | ⟨_,fs⟩::r=>1+fs.length+zbI fs+zN r
def zfb:yA→Nat
 | []=>0
 | a::r=>zN a+zfb r
def zdm:yE→Nat
 | []=>0
 | ⟨_,a⟩::r=>1+zN a+zdm r
end
theorem zg8 (x:Atom):ze4 x=zfb x.Args+zdm x.Items:=by cases x; rw [ze4]
theorem zdb (f:Factor) (r:yD):zbI (f::r)=ze4 f.Atom+zbI r:=by cases f; rw [zbI]
theorem zet (t:Term) (r:yC):zN (t::r)=1+t.Factors.length+zbI t.Factors+zN r:=by cases t; rw [zN]
theorem zeS (a:yC) (r:yA):zfb (a::r)=zN a+zfb r:=by rw [zfb]
theorem zh4 (w:Weighted) (r:yE):zdm (w::r)=1+zN w.Ann+zdm r:=by cases w; rw [zdm]
theorem zgx:zfb []=0:=by rw [zfb]
theorem zfx:zdm []=0:=by rw [zdm]
theorem ziv:zbI []=0:=by rw [zbI]
theorem ztB:zN []=0:=by rw [zN]
theorem z09 (l:yA):∀ n:Nat,l.foldl (fun s t=>s+zN t) n=n+zfb l:=by
 induction l with
 | nil=>intro n; rw [zgx]; rfl
 | cons a r ih=>intro n; rw [List.foldl_cons,ih,zeS]; omega
theorem zY9 (l:yE):∀ n:Nat,l.foldl (fun s t=>s+1+zN t.Ann) n=n+zdm l:=by
 induction l with
 | nil=>intro n; rw [zfx]; rfl
 | cons a r ih=>intro n; rw [List.foldl_cons,ih,zh4]; omega
theorem z5N (l:yD):∀ n:Nat,l.foldl (fun s t=>s+ze4 t.Atom) n=n+zbI l:=by
 induction l with
 | nil=>intro n; rw [ziv]; rfl
 | cons a r ih=>intro n; rw [List.foldl_cons,ih,zdb]; omega
theorem z4I (l:yC):∀ n:Nat,l.foldl (fun s t=>s+1+t.Factors.length+zbI t.Factors) n=n+zN l:=by
 induction l with
 | nil=>intro n; rw [ztB]; rfl
 | cons a r ih=>intro n; rw [List.foldl_cons,ih,zet]; omega
theorem zot {n m:Nat} (h:n+m≤4611686018427387904):IntKind.i64.wrap ((n:Int)+(m:Int))=((n+m:Nat):Int):=by
 rw [zW9 (by omega) (by omega)]; omega
theorem zgz {i:Nat} (h:i<4611686018427387904):IntKind.i64.wrap ((i:Int)+1)=((i+1:Nat):Int):=zR h
section
variable (g:yC→Bool×Int)
theorem zbe7 (l:yA) (hl:l.length≤1000000) (hg:∀ y∈l,g y=(true,(zN y:Int))) (t12:yC) (t13 t14:Int) (t25:yD) (t26 t27:Int) (f:Factor) (fuel n:Nat) (hf:l.length<fuel) (hn:n+zfb l≤4611686018427387904):
  zCK g fuel n t12 t13 t14 t25 t26 t27 l l.length 0 f=(true,(((n+zfb l:Nat):Int),t12,t13,t14,t25,t26,t27,f)):=by
 have h:=zc3 (W:=zvf g) (z:=default) (l:=l) (fun i (n:Nat)=>((n:Int),(),t12,t13,t14,t25,t26,t27,l,(l.length:Int),(i:Int),())) (fun _ _=>(f,())) (fun y n=>.inl (n+zN y)) (fun n=>((n:Int),t12,t13,t14,t25,t26,t27,f)) (fun i n=>n+zfb (l.drop i)≤4611686018427387904)
  (fun i n hi hI=>.inl ⟨_,rfl,by rw [zbB hi,zeS] at hI; omega,fun H K D=>by
   rw [zbB hi,zeS] at hI;show (zkx g n t12 t13 t14 t25 t26 t27 l l.length i f).ev H K D=_;unfold zkx;simp only [Wy.ev_i,Wy.ev_k,Wy.ev_h,Wy.ev_bn,Wy.ev_d,tT,hi,hg _ (zt hi)];rw [zot (by omega),zgz (by omega)]⟩)
  (fun n hI H K D=>by
   show (zkx g n t12 t13 t14 t25 t26 t27 l l.length l.length f).ev H K D=_;unfold zkx;simp only [Wy.ev_i,Wy.ev_k,tT,Nat.lt_irrefl]) fuel 0 n (by omega) (Nat.zero_le _) (by simpa using hn)
 rw [List.drop_zero,zc4,z09] at h;exact h
theorem zbe0 (l:yE) (hl:l.length≤1000000) (hg:∀ y∈l,g y.Ann=(true,(zN y.Ann:Int))) (t12:yC) (t13 t14:Int) (t25:yD) (t26 t27:Int) (fuel n:Nat) (hf:l.length<fuel) (hn:n+zdm l≤4611686018427387904):
  zCM g fuel n t12 t13 t14 t25 t26 t27 l l.length 0=(true,(((n+zdm l:Nat):Int),t12,t13,t14,t25,t26,t27)):=by
 have h:=zc3 (W:=zvR g) (z:=default) (l:=l) (fun i (n:Nat)=>((n:Int),t12,t13,t14,t25,t26,t27,l,(l.length:Int),(i:Int),())) (fun _ _=>()) (fun y n=>.inl (n+1+zN y.Ann)) (fun n=>((n:Int),t12,t13,t14,t25,t26,t27)) (fun i n=>n+zdm (l.drop i)≤4611686018427387904)
  (fun i n hi hI=>.inl ⟨_,rfl,by rw [zbB hi,zh4] at hI; omega,fun H K D=>by
   rw [zbB hi,zh4] at hI;show (zky g n t12 t13 t14 t25 t26 t27 l l.length i).ev H K D=_;unfold zky;simp only [Wy.ev_i,Wy.ev_k,Wy.ev_h,Wy.ev_bn,Wy.ev_d,tT,hi,hg _ (zt hi)];rw [zgz (by omega),show (1:Int)=((1:Nat):Int) from rfl,zot (by omega),zot (by omega), ← Nat.add_assoc]⟩)
  (fun n hI H K D=>by
   show (zky g n t12 t13 t14 t25 t26 t27 l l.length l.length).ev H K D=_;unfold zky;simp only [Wy.ev_i,Wy.ev_k,tT,Nat.lt_irrefl]) fuel 0 n (by omega) (Nat.zero_le _) (by simpa using hn)
 rw [List.drop_zero,zc4,zY9] at h;exact h
theorem zbf4 (l:yD) (hl:l.length≤1000000) (hg:∀ f∈l,(f.Atom.Args.length≤1000000∧f.Atom.Items.length≤1000000)∧(∀ y∈f.Atom.Args,g y=(true,(zN y:Int)))∧∀ y∈f.Atom.Items,g y.Ann=(true,(zN y.Ann:Int))) (t12:yC) (t13 t14:Int) (fuel n:Nat) (hf:l.length<fuel) (hn:n+zbI l≤4611686018427387904):
  zDF g fuel n t12 t13 t14 l l.length 0=(true,(((n+zbI l:Nat):Int),t12,t13,t14)):=by
 have h:=zc3 (W:=zw6 g) (z:=default) (l:=l) (fun i (n:Nat)=>((n:Int),t12,t13,t14,l,(l.length:Int),(i:Int),())) (fun _ _=>()) (fun y n=>.inl (n+ze4 y.Atom)) (fun n=>((n:Int),t12,t13,t14)) (fun i n=>n+zbI (l.drop i)≤4611686018427387904)
  (fun i n hi hI=>.inl ⟨_,rfl,by rw [zbB hi,zdb] at hI; omega,fun H K D=>by
   rw [zbB hi,zdb,zg8] at hI;obtain ⟨⟨h1,h2⟩,h3,h4⟩:=hg _ (zt hi);show (zlh g n t12 t13 t14 l l.length i).ev H K D=_;unfold zlh;simp only [Wy.ev_i,Wy.ev_k,Wy.ev_h,Wy.ev_bn,Wy.ev_d,tT,hi,Atom.eta];rw [zbe7 g _ h1 h3 _ _ _ _ _ _ _ _ _ (by omega) (by omega)]
   simp only [cond_true,Int.toNat_natCast];rw [zbe0 g _ h2 h4 _ _ _ _ _ _ _ _ (by omega) (by omega)]
   simp only [cond_true];rw [zgz (by omega),zg8,Nat.add_assoc]⟩)
  (fun n hI H K D=>by
   show (zlh g n t12 t13 t14 l l.length l.length).ev H K D=_;unfold zlh;simp only [Wy.ev_i,Wy.ev_k,tT,Nat.lt_irrefl]) fuel 0 n (by omega) (Nat.zero_le _) (by simpa using hn)
 rw [List.drop_zero,zc4,z5N] at h;exact h
theorem zbfo (l:yC) (hl:l.length≤1000000) (hg:∀ t∈l,t.Factors.length≤1000000∧∀ f∈t.Factors,(f.Atom.Args.length≤1000000∧f.Atom.Items.length≤1000000)∧(∀ y∈f.Atom.Args,g y=(true,(zN y:Int)))∧∀ y∈f.Atom.Items,g y.Ann=(true,(zN y.Ann:Int))) (fuel n:Nat) (hf:l.length<fuel) (hn:n+zN l≤4611686018427387904):
  zEu g fuel n l l.length 0=(true,((n+zN l:Nat):Int)):=by
 have h:=zc3 (W:=zxb g) (z:=default) (l:=l) (fun i (n:Nat)=>((n:Int),l,(l.length:Int),(i:Int),())) (fun _ _=>()) (fun y n=>.inl (n+1+y.Factors.length+zbI y.Factors)) (fun n=>(n:Int)) (fun i n=>n+zN (l.drop i)≤4611686018427387904)
  (fun i n hi hI=>.inl ⟨_,rfl,by rw [zbB hi,zet] at hI; omega,fun H K D=>by
   rw [zbB hi,zet] at hI;obtain ⟨h1,h3⟩:=hg _ (zt hi);show (zlu g n l l.length i).ev H K D=_;unfold zlu;simp only [Wy.ev_i,Wy.ev_k,Wy.ev_h,Wy.ev_bn,Wy.ev_d,tT,hi,Atom.eta];rw [show (1:Int)=((1:Nat):Int) from rfl,zot (n:=1) (by omega),zot (by omega)]
   rw [zbf4 g _ h1 h3 _ _ _ _ _ (by omega) (by omega)]
   simp only [cond_true];rw [show ((1:Nat):Int)=(1:Int) from rfl,zgz (by omega),Nat.add_assoc n 1]⟩)
  (fun n hI H K D=>by
   show (zlu g n l l.length l.length).ev H K D=_;unfold zlu;simp only [Wy.ev_i,Wy.ev_k,tT,Nat.lt_irrefl]) fuel 0 n (by omega) (Nat.zero_le _) (by simpa using hn)
 rw [List.drop_zero,zc4,z4I] at h;exact h
theorem zbc1 (x:Atom) (hl:x.Args.length≤1000000) (hg:∀ y∈x.Args,g y=(true,(zN y:Int))) (a:yC) (i k:Int) (fuel n:Nat) (hf:x.Args.length<fuel) (hn:n+zfb x.Args≤4611686018427387904):
  zLG g fuel a n i k 0 x=(true,(a,((n+zfb x.Args:Nat):Int),i,k,x)):=by
 have h:=zc3 (W:=zCr g) (z:=default) (l:=x.Args) (fun j (n:Nat)=>(a,(n:Int),i,k,(),(j:Int),())) (fun _ _=>(x,())) (fun y n=>.inl (n+zN y)) (fun n=>(a,(n:Int),i,k,x)) (fun i n=>n+zfb (x.Args.drop i)≤4611686018427387904)
  (fun j n hi hI=>.inl ⟨_,rfl,by rw [zbB hi,zeS] at hI; omega,fun H K D=>by
   rw [zbB hi,zeS] at hI;show (zrk g a n i k j x).ev H K D=_;unfold zrk;simp only [Wy.ev_i,Wy.ev_k,Wy.ev_h,Wy.ev_bn,Wy.ev_d,tT,hi,hg _ (zt hi)];rw [zot (by omega),zgz (by omega)]⟩)
  (fun n hI H K D=>by
   show (zrk g a n i k x.Args.length x).ev H K D=_;unfold zrk;simp only [Wy.ev_i,Wy.ev_k,tT,Nat.lt_irrefl]) fuel 0 n (by omega) (Nat.zero_le _) (by simpa using hn)
 rw [List.drop_zero,zc4,z09] at h;exact h
theorem zbcR (x:Atom) (hl:x.Items.length≤1000000) (hg:∀ y∈x.Items,g y.Ann=(true,(zN y.Ann:Int))) (a:yC) (i k:Int) (fuel n:Nat) (hf:x.Items.length<fuel) (hn:n+zdm x.Items≤4611686018427387904):
  zK4 g fuel a n i k 0 x=(true,(a,((n+zdm x.Items:Nat):Int),i,k)):=by
 have h:=zc3 (W:=zCo g) (z:=default) (l:=x.Items) (fun j (n:Nat)=>(a,(n:Int),i,k,(),(j:Int),())) (fun _ _=>(x,())) (fun y n=>.inl (n+1+zN y.Ann)) (fun n=>(a,(n:Int),i,k)) (fun i n=>n+zdm (x.Items.drop i)≤4611686018427387904)
  (fun j n hi hI=>.inl ⟨_,rfl,by rw [zbB hi,zh4] at hI; omega,fun H K D=>by
   rw [zbB hi,zh4] at hI;show (zqT g a n i k j x).ev H K D=_;unfold zqT;simp only [Wy.ev_i,Wy.ev_k,Wy.ev_h,Wy.ev_bn,Wy.ev_d,tT,hi,hg _ (zt hi)];rw [zgz (i:=j) (by omega),zgz (i:=n) (by omega),zot (by omega)]⟩)
  (fun n hI H K D=>by
   show (zqT g a n i k x.Items.length x).ev H K D=_;unfold zqT;simp only [Wy.ev_i,Wy.ev_k,tT,Nat.lt_irrefl]) fuel 0 n (by omega) (Nat.zero_le _) (by simpa using hn)
 rw [List.drop_zero,zc4,zY9] at h;exact h
theorem zLO:∀ (a:yC) (i:Nat),i<a.length→(a.getD i default).Factors.length≤szTs a
 | [],i,h=>by simp at h
 | t::r,0,h=>by
  have:∀ l:yD,l.length≤szFs l:=fun l=>by
   induction l with
   | nil=>exact Nat.le_refl _
   | cons f r ih=>simp only [szFs,qf]; omega
  have:=this t.Factors;simp only [szTs,List.getD_cons_zero]; omega
 | t::r,i+1,h=>by
  have:=zLO r i (by simpa using h)
  simp only [szTs,List.getD_cons_succ]; omega
theorem foldl_factors' (l:yD):∀ n:Nat,l.foldl (fun s t=>s+1+ze4 t.Atom) n=n+l.length+zbI l:=by
 induction l with
 | nil=>intro n; rw [ziv]; rfl
 | cons a r ih=>intro n; rw [List.foldl_cons,ih,zdb,qf]; omega
theorem zbee (a:yC) (i:Nat) (hi:i<a.length) (hla:a.length≤1000000) (l:yD) (el:(a.getD i default).Factors=l) (hl:l.length≤1000000) (hg:∀ f∈l,(f.Atom.Args.length≤1000000∧f.Atom.Items.length≤1000000)∧(∀ y∈f.Atom.Args,g y=(true,(zN y:Int)))∧∀ y∈f.Atom.Items,g y.Ann=(true,(zN y.Ann:Int))) (fuel n:Nat) (hf:l.length<fuel) (hn:n+l.length+zbI l≤4611686018427387904):
  zNm g fuel a n i 0=(true,(a,((n+l.length+zbI l:Nat):Int),(i:Int))):=by
 have h:=zc3 (W:=zEB g) (z:=default) (l:=l) (fun k (n:Nat)=>(a,(n:Int),(i:Int),(k:Int),())) (fun _ _=>()) (fun y n=>.inl (n+1+ze4 y.Atom)) (fun n=>(a,(n:Int),(i:Int))) (fun k n=>n+(l.drop k).length+zbI (l.drop k)≤4611686018427387904)
  (fun k n hk hI=>.inl ⟨_,rfl,by rw [zbB hk,zdb,qf] at hI; omega,fun H K D=>by
   rw [zbB hk,zdb,zg8,qf] at hI;obtain ⟨⟨h1,h2⟩,h3,h4⟩:=hg _ (zt hk);show (ztg g a n i k).ev H K D=_;unfold ztg;simp only [Wy.ev_i,Wy.ev_k,Wy.ev_h,Wy.ev_bn,Wy.ev_d,tT,hi,el,hk,Atom.eta];rw [zgz (i:=n) (by omega)]
   rw [zbc1 g _ h1 h3 _ _ _ _ _ (by omega) (by omega)]
   simp only [cond_true,Int.toNat_natCast,Atom.eta];rw [zbcR g _ h2 h4 _ _ _ _ _ (by omega) (by omega)]
   simp only [cond_true];rw [zgz (by omega),zg8,Nat.add_assoc (n+1)]⟩)
  (fun n hI H K D=>by
   show (ztg g a n i l.length).ev H K D=_;unfold ztg;simp only [Wy.ev_i,Wy.ev_k,tT,hi,el,Nat.lt_irrefl]) fuel 0 n (by omega) (Nat.zero_le _) (by simpa using hn)
 rw [List.drop_zero,zc4,foldl_factors'] at h;exact h
theorem zbdY (l:yC) (hl:l.length≤1000000) (hg:∀ t∈l,t.Factors.length≤1000000∧∀ f∈t.Factors,(f.Atom.Args.length≤1000000∧f.Atom.Items.length≤1000000)∧(∀ y∈f.Atom.Args,g y=(true,(zN y:Int)))∧∀ y∈f.Atom.Items,g y.Ann=(true,(zN y.Ann:Int))) (fuel n:Nat) (hf:l.length<fuel) (hn:n+zN l≤4611686018427387904):
  zNb g fuel l n 0=(true,((n+zN l:Nat):Int)):=by
 have h:=zc3 (W:=zD6 g) (z:=default) (l:=l) (fun i (n:Nat)=>(l,(n:Int),(i:Int),())) (fun _ _=>()) (fun y n=>.inl (n+1+y.Factors.length+zbI y.Factors)) (fun n=>(n:Int)) (fun i n=>n+zN (l.drop i)≤4611686018427387904)
  (fun i n hi hI=>.inl ⟨_,rfl,by rw [zbB hi,zet] at hI; omega,fun H K D=>by
   rw [zbB hi,zet] at hI;obtain ⟨h1,h3⟩:=hg _ (zt hi);have hz:=zLO l i hi;show (ztp g l n i).ev H K D=_;unfold ztp;simp only [Wy.ev_i,Wy.ev_k,Wy.ev_h,Wy.ev_bn,Wy.ev_d,tT,hi,Atom.eta];rw [zgz (i:=n) (by omega)]
   rw [zbee g l i hi hl _ rfl h1 h3 _ _ (by omega) (by omega)]
   simp only [cond_true];rw [zgz (by omega)]⟩)
  (fun n hI H K D=>by
   show (ztp g l n l.length).ev H K D=_;unfold ztp;simp only [Wy.ev_i,Wy.ev_k,tT,Nat.lt_irrefl]) fuel 0 n (by omega) (Nat.zero_le _) (by simpa using hn)
 rw [List.drop_zero,zc4,z4I] at h;exact h
end
theorem z8V {l:yA} {y:yC} (h:y∈l):zN y≤zfb l:=by
 induction l with
 | nil=>cases h
 | cons a r ih=>
  rw [zeS];rcases qd.1 h with rfl | h
  ·omega
  ·have:=ih h; omega
theorem z8d {l:yE} {y:Weighted} (h:y∈l):zN y.Ann≤zdm l:=by
 induction l with
 | nil=>cases h
 | cons a r ih=>
  rw [zh4];rcases qd.1 h with rfl | h
  ·omega
  ·have:=ih h; omega
theorem zP1 {l:yD} {y:Factor} (h:y∈l):ze4 y.Atom≤zbI l:=by
 induction l with
 | nil=>cases h
 | cons a r ih=>
  rw [zdb];rcases qd.1 h with rfl | h
  ·omega
  ·have:=ih h; omega
theorem zbax {l:yC} {y:Term} (h:y∈l):zbI y.Factors≤zN l:=by
 induction l with
 | nil=>cases h
 | cons a r ih=>
  rw [zet];rcases qd.1 h with rfl | h
  ·omega
  ·have:=ih h; omega
theorem z3y {a:yC} {t:Term} {f:Factor} (ht:t∈a) (hf:f∈t.Factors):zfb f.Atom.Args+zdm f.Atom.Items≤zN a:=by
 have h1:=zbax ht; have h2:=zP1 hf; rw [zg8] at h2; omega
theorem zOB {d:Nat} {a:yC} (h:zr (d+1) a) {t:Term} (ht:t∈a):t.Factors.length≤1000000∧∀ f∈t.Factors,(f.Atom.Args.length≤1000000∧f.Atom.Items.length≤1000000)∧(∀ y∈f.Atom.Args,zr d y)∧∀ y∈f.Atom.Items,zr d y.Ann:=
 ⟨(h.2 t ht).1,fun f hf=>have q:=(h.2 t ht).2 f hf; ⟨⟨q.1.1,q.1.2.1⟩,q.2.1,fun y hy=>(q.2.2 y hy).2⟩⟩
theorem zZH:∀ (n d:Nat) (a:yC),zr d a→d≤n→zN a≤4611686018427387904→zlP n a=(true,(zN a:Int))∧zvx n a=(true,(zN a:Int))
 | n,0,a,h,hd,hs=>h.elim
 | 0,d+1,a,h,hd,hs=>by omega
 | n+1,d+1,a,h,hd,hs=>by
  have hg:=fun y (hy:zr d y) (hs:zN y≤4611686018427387904)=>zZH n d y hy (by omega) hs
  have hsub:∀ t∈a,t.Factors.length≤1000000∧∀ f∈t.Factors,(f.Atom.Args.length≤1000000∧f.Atom.Items.length≤1000000)∧(∀ y∈f.Atom.Args,zr d y∧zN y≤4611686018427387904)∧∀ y∈f.Atom.Items,zr d y.Ann∧zN y.Ann≤4611686018427387904:=fun t ht=>by
   obtain ⟨h1,h2⟩:=zOB h ht;refine ⟨h1,fun f hf=> ?_⟩
   obtain ⟨h3,h4,h5⟩:=h2 f hf;have h6:=z3y ht hf;exact ⟨h3,fun y hy=>⟨h4 y hy,by have:=z8V hy; omega⟩,fun y hy=>⟨h5 y hy,by have:=z8d hy; omega⟩⟩
  constructor
  ·rw [zQ1];unfold zuU zFa
   have h1:=zbfo (zlP n) a h.1 (fun t ht=>⟨(hsub t ht).1,fun f hf=>⟨((hsub t ht).2 f hf).1,fun y hy=>(hg y (((hsub t ht).2 f hf).2.1 y hy).1 (((hsub t ht).2 f hf).2.1 y hy).2).1,fun y hy=>(hg _ (((hsub t ht).2 f hf).2.2 y hy).1 (((hsub t ht).2 f hf).2.2 y hy).2).1⟩⟩)
    (Int.toNat 0+a.length+(Int.ofNat a.length).toNat +Int.toNat 0+1) 0 (by omega) (by omega)
   rw [show ((0:Nat):Int)=(0:Int) from rfl,Nat.zero_add] at h1
   rw [Wy.fin_bn,show Int.ofNat a.length=(a.length:Int) from rfl] at *
   rw [h1]; rfl
  ·rw [z1t];unfold zDE zQb
   have h1:=zbdY (zvx n) a h.1 (fun t ht=>⟨(hsub t ht).1,fun f hf=>⟨((hsub t ht).2 f hf).1,fun y hy=>(hg y (((hsub t ht).2 f hf).2.1 y hy).1 (((hsub t ht).2 f hf).2.1 y hy).2).2,fun y hy=>(hg _ (((hsub t ht).2 f hf).2.2 y hy).1 (((hsub t ht).2 f hf).2.2 y hy).2).2⟩⟩)
    (a.length+Int.toNat 0+Int.toNat 0+1+szTs a) 0 (by omega) (by omega)
   rw [show ((0:Nat):Int)=(0:Int) from rfl,Nat.zero_add] at h1
   rw [Wy.fin_bn,h1]; rfl
mutual
def zn3:Atom→Nat
 | ⟨k,_,a,_,i,_,_⟩=>if k=0 then 0 else 1+max (zmM a) (zld i)
def zdq:yD→Nat
 | []=>0
 | ⟨x,_⟩::r=>max (zn3 x) (zdq r)
def zbp:yC→Nat
 | []=>0
 | ⟨_,fs⟩::r=>max (zdq fs) (zbp r)
def zmM:yA→Nat
 | []=>0
 | a::r=>max (zbp a) (zmM r)
def zld:yE→Nat
 | []=>0
 | ⟨_,a⟩::r=>max (zbp a) (zld r)
end
theorem zDD (x:Atom):zn3 x=if x.Kind=0 then 0 else 1+max (zmM x.Args) (zld x.Items):=by cases x; rw [zn3]
theorem zjh (f:Factor) (r:yD):zdq (f::r)=max (zn3 f.Atom) (zdq r):=by cases f; rw [zdq]
theorem zm8 (t:Term) (r:yC):zbp (t::r)=max (zdq t.Factors) (zbp r):=by cases t; rw [zbp]
theorem zEp (a:yC) (r:yA):zmM (a::r)=max (zbp a) (zmM r):=by rw [zmM]
theorem zB8 (w:Weighted) (r:yE):zld (w::r)=max (zbp w.Ann) (zld r):=by cases w; rw [zld]
theorem zOt:zmM []=0:=by rw [zmM]
theorem zLM:zld []=0:=by rw [zld]
theorem zp6:zdq []=0:=by rw [zdq]
theorem zDz:zbp []=0:=by rw [zbp]
theorem zbaO (l:yA):∀ n:Nat,l.foldl (fun s t=>max s (zbp t)) n=max n (zmM l):=by
 induction l with
 | nil=>intro n; rw [zOt]; exact (Nat.max_zero n).symm
 | cons a r ih=>intro n; rw [List.foldl_cons,ih,zEp]; omega
theorem z8N (l:yE):∀ n:Nat,l.foldl (fun s t=>max s (zbp t.Ann)) n=max n (zld l):=by
 induction l with
 | nil=>intro n; rw [zLM]; exact (Nat.max_zero n).symm
 | cons a r ih=>intro n; rw [List.foldl_cons,ih,zB8]; omega
theorem z8C (l:yA):∀ n:Nat,l.foldl (fun s t=>max s (1+zbp t)) (1+n)=1+max n (zmM l):=by
 induction l with
 | nil=>intro n; rw [zOt]; simp
 | cons a r ih=>intro n; rw [List.foldl_cons,show max (1+n) (1+zbp a)=1+max n (zbp a) by omega,ih,zEp]; omega
theorem z6p (l:yE):∀ n:Nat,l.foldl (fun s t=>max s (1+zbp t.Ann)) (1+n)=1+max n (zld l):=by
 induction l with
 | nil=>intro n; rw [zLM]; simp
 | cons a r ih=>intro n; rw [List.foldl_cons,show max (1+n) (1+zbp a.Ann)=1+max n (zbp a.Ann) by omega,ih,zB8]; omega
theorem zSQ (l:yD):∀ n:Nat,l.foldl (fun s t=>max s (zn3 t.Atom)) n=max n (zdq l):=by
 induction l with
 | nil=>intro n; rw [zp6]; exact (Nat.max_zero n).symm
 | cons a r ih=>intro n; rw [List.foldl_cons,ih,zjh]; omega
theorem z4v (l:yC):∀ n:Nat,l.foldl (fun s t=>max s (zdq t.Factors)) n=max n (zbp l):=by
 induction l with
 | nil=>intro n; rw [zDz]; exact (Nat.max_zero n).symm
 | cons a r ih=>intro n; rw [List.foldl_cons,ih,zm8]; omega
theorem zXc (a b:Nat):(if (a:Int)>(b:Int) then (a:Int) else (b:Int))=((max b a:Nat):Int):=by split <;>omega
theorem z2N {d:Nat}:∀ l:yA,(∀ y∈l,zbp y≤d)→zmM l≤d:=fun l=>by
 induction l with
 | nil=>intro _; rw [zOt]; omega
 | cons y r ih=>intro hy; rw [zEp]; have h1:=hy y (by simp); have h2:=ih fun z hz=>hy z (by simp [hz]); omega
theorem zY7 {d:Nat}:∀ l:yE,(∀ y∈l,zbp y.Ann≤d)→zld l≤d:=fun l=>by
 induction l with
 | nil=>intro _; rw [zLM]; omega
 | cons y r ih=>intro hy; rw [zB8]; have h1:=hy y (by simp); have h2:=ih fun z hz=>hy z (by simp [hz]); omega
theorem z5u {d:Nat}:∀ l:yD,(∀ y∈l,zn3 y.Atom≤d)→zdq l≤d:=fun l=>by
 induction l with
 | nil=>intro _; rw [zp6]; omega
 | cons y r ih=>intro hy; rw [zjh]; have h1:=hy y (by simp); have h2:=ih fun z hz=>hy z (by simp [hz]); omega
theorem zbbm {d:Nat}:∀ l:yC,(∀ y∈l,zdq y.Factors≤d)→zbp l≤d:=fun l=>by
 induction l with
 | nil=>intro _; rw [zDz]; omega
 | cons y r ih=>intro hy; rw [zm8]; have h1:=hy y (by simp); have h2:=ih fun z hz=>hy z (by simp [hz]); omega
theorem zRd:∀ (d:Nat) (a:yC),zr d a→zbp a≤d
 | 0,a,h=>h.elim
 | d+1,a,h=>zbbm a fun t ht=>z5u _ fun f hf=>by
  obtain ⟨_,h2⟩:=zOB h ht;obtain ⟨_,h4,h5⟩:=h2 f hf;have q1:=z2N f.Atom.Args fun y hy=>zRd d y (h4 y hy)
  have q2:=zY7 f.Atom.Items fun y hy=>zRd d y.Ann (h5 y hy)
  rw [zDD]; split <;>omega
section
variable (g:yC→Bool×Int)
theorem zbfj (l:yA) (hl:l.length≤1000000) (hg:∀ y∈l,g y=(true,(zbp y:Int))) (nn:Int) (t13:yC) (t14 t15:Int) (t20:yD) (t21 t22:Int) (f:Factor) (fuel n:Nat) (hf:l.length<fuel):
  zzB g fuel nn n t13 t14 t15 t20 t21 t22 l l.length 0 f=(true,(nn,((max n (zmM l):Nat):Int),t13,t14,t15,t20,t21,t22,f)):=by
 have h:=zc3 (W:=zqI g) (z:=default) (l:=l) (fun i (n:Nat)=>(nn,(),(n:Int),t13,t14,t15,t20,t21,t22,l,(l.length:Int),(i:Int),())) (fun _ _=>(f,())) (fun y n=>.inl (max n (zbp y))) (fun n=>(nn,(n:Int),t13,t14,t15,t20,t21,t22,f)) (fun i n=>True)
  (fun i n hi hI=>.inl ⟨_,rfl,trivial,fun H K D=>by
   show (zhL g nn n t13 t14 t15 t20 t21 t22 l l.length i f).ev H K D=_;unfold zhL;simp only [Wy.ev_i,Wy.ev_k,Wy.ev_h,Wy.ev_bn,Wy.ev_d,tT,hi,hg _ (zt hi),zXc];rw [zgz (by omega)]⟩)
  (fun n hI H K D=>by
   show (zhL g nn n t13 t14 t15 t20 t21 t22 l l.length l.length f).ev H K D=_;unfold zhL;simp only [Wy.ev_i,Wy.ev_k,tT,Nat.lt_irrefl]) fuel 0 n (by omega) (Nat.zero_le _) trivial
 rw [List.drop_zero,zc4,zbaO] at h;exact h
theorem zbfn (l:yE) (hl:l.length≤1000000) (hg:∀ y∈l,g y.Ann=(true,(zbp y.Ann:Int))) (nn:Int) (t13:yC) (t14 t15:Int) (t20:yD) (t21 t22:Int) (fuel n:Nat) (hf:l.length<fuel):
  zAi g fuel nn n t13 t14 t15 t20 t21 t22 l l.length 0=(true,(nn,((max n (zld l):Nat):Int),t13,t14,t15,t20,t21,t22)):=by
 have h:=zc3 (W:=zqN g) (z:=default) (l:=l) (fun i (n:Nat)=>(nn,(n:Int),t13,t14,t15,t20,t21,t22,l,(l.length:Int),(i:Int),())) (fun _ _=>()) (fun y n=>.inl (max n (zbp y.Ann))) (fun n=>(nn,(n:Int),t13,t14,t15,t20,t21,t22)) (fun i n=>True)
  (fun i n hi hI=>.inl ⟨_,rfl,trivial,fun H K D=>by
   show (zhR g nn n t13 t14 t15 t20 t21 t22 l l.length i).ev H K D=_;unfold zhR;simp only [Wy.ev_i,Wy.ev_k,Wy.ev_h,Wy.ev_bn,Wy.ev_d,tT,hi,hg _ (zt hi),zXc];rw [zgz (by omega)]⟩)
  (fun n hI H K D=>by
   show (zhR g nn n t13 t14 t15 t20 t21 t22 l l.length l.length).ev H K D=_;unfold zhR;simp only [Wy.ev_i,Wy.ev_k,tT,Nat.lt_irrefl]) fuel 0 n (by omega) (Nat.zero_le _) trivial
 rw [List.drop_zero,zc4,z8N] at h;exact h
def NesG (x:Atom):Prop:=(x.Args.length≤1000000∧x.Items.length≤1000000)∧(zn3 x≤1000∧(∀ y∈x.Args,zbp y≤1000)∧∀ y∈x.Items,zbp y.Ann≤1000)∧(∀ y∈x.Args,g y=(true,(zbp y:Int)))∧∀ y∈x.Items,g y.Ann=(true,(zbp y.Ann:Int))
theorem zbgr (l:yD) (hl:l.length≤1000000) (hg:∀ f∈l,NesG g f.Atom) (t13:yC) (t14 t15:Int) (fuel n:Nat) (hf:l.length<fuel):
  zAW g fuel n t13 t14 t15 l l.length 0=(true,(((max n (zdq l):Nat):Int),t13,t14,t15)):=by
 have h:=zc3 (W:=zsF g) (z:=default) (l:=l) (fun i (n:Nat)=>((n:Int),t13,t14,t15,l,(l.length:Int),(i:Int),())) (fun _ _=>()) (fun y n=>.inl (max n (zn3 y.Atom))) (fun n=>((n:Int),t13,t14,t15)) (fun i n=>True)
  (fun i n hi hI=>.inl ⟨_,rfl,trivial,fun H K D=>by
   obtain ⟨⟨h1,h2⟩,⟨h5,_,_⟩,h3,h4⟩:=hg _ (zt hi);show (ziR g n t13 t14 t15 l l.length i).ev H K D=_;unfold ziR;simp only [Wy.ev_i,Wy.ev_k,Wy.ev_h,Wy.ev_bn,Wy.ev_d,tT,hi,Atom.eta];generalize l.getD i default=f at *;rw [zDD] at h5 ⊢;by_cases hk:f.Atom.Kind=0
   ·have e:(f.Atom.Kind==0)=true:=by simp [hk]
    simp only [e,cond_true];rw [if_pos hk,Nat.max_zero,zgz (by omega)]
   ·have e:(f.Atom.Kind==0)=false:=by simp [hk]
    simp only [e,cond_false];rw [if_neg hk] at h5 ⊢;have q:=fun fuel hf=>zbfj g _ h1 h3 n t13 t14 t15 l l.length i f fuel 0 hf
    rw [Nat.zero_max,show ((0:Nat):Int)=(0:Int) from rfl] at q
    rw [q _ (by omega)]
    simp only [cond_true,Int.toNat_natCast];rw [zbfn g _ h2 h4 n t13 t14 t15 l l.length i _ _ (by omega)]
    simp only [cond_true];rw [zgz (by omega),show (1:Int)=((1:Nat):Int) from rfl,zot (n:=1) (by omega),zXc]⟩)
  (fun n hI H K D=>by
   show (ziR g n t13 t14 t15 l l.length l.length).ev H K D=_;unfold ziR;simp only [Wy.ev_i,Wy.ev_k,tT,Nat.lt_irrefl]) fuel 0 n (by omega) (Nat.zero_le _) trivial
 rw [List.drop_zero,zc4,zSQ] at h;exact h
theorem zbgk (l:yC) (hl:l.length≤1000000) (hg:∀ t∈l,t.Factors.length≤1000000∧∀ f∈t.Factors,NesG g f.Atom) (fuel n:Nat) (hf:l.length<fuel):
  zA1 g fuel n l l.length 0=(true,((max n (zbp l):Nat):Int)):=by
 have h:=zc3 (W:=zsD g) (z:=default) (l:=l) (fun i (n:Nat)=>((n:Int),l,(l.length:Int),(i:Int),())) (fun _ _=>()) (fun y n=>.inl (max n (zdq y.Factors))) (fun n=>(n:Int)) (fun i n=>True)
  (fun i n hi hI=>.inl ⟨_,rfl,trivial,fun H K D=>by
   obtain ⟨h1,h3⟩:=hg _ (zt hi);show (ziF g n l l.length i).ev H K D=_;unfold ziF;simp only [Wy.ev_i,Wy.ev_k,Wy.ev_h,Wy.ev_bn,Wy.ev_d,tT,hi,Atom.eta];rw [zbgr g _ h1 h3 _ _ _ _ _ (by omega)]
   simp only [cond_true];rw [zgz (by omega)]⟩)
  (fun n hI H K D=>by
   show (ziF g n l l.length l.length).ev H K D=_;unfold ziF;simp only [Wy.ev_i,Wy.ev_k,tT,Nat.lt_irrefl]) fuel 0 n (by omega) (Nat.zero_le _) trivial
 rw [List.drop_zero,zc4,z4v] at h;exact h
theorem zbeb (x:Atom) (hx:NesG g x) (a:yC) (most i k:Int) (fuel n:Nat) (hf:x.Args.length<fuel):
  zyI g fuel a most i k ((1+n:Nat):Int) 0 x=(true,(a,most,i,k,((1+max n (zmM x.Args):Nat):Int),x)):=by
 obtain ⟨⟨h1,h2⟩,⟨h5,h6,h7⟩,h3,h4⟩:=hx
 have h:=zc3 (W:=zyK g) (z:=default) (l:=x.Args) (fun j (n:Nat)=>(a,most,i,k,(),(n:Int),(j:Int),())) (fun _ _=>(x,())) (fun y n=>.inl (max n (1+zbp y))) (fun n=>(a,most,i,k,(n:Int),x)) (fun i n=>True)
  (fun j n hi hI=>.inl ⟨_,rfl,trivial,fun H K D=>by
   have h8:=h6 _ (zt hi);show (zmC g a most i k n j x).ev H K D=_;unfold zmC;simp only [Wy.ev_i,Wy.ev_k,Wy.ev_h,Wy.ev_bn,Wy.ev_d,tT,hi,h3 _ (zt hi)];rw [zgz (by omega),show (1:Int)=((1:Nat):Int) from rfl,zot (n:=1) (by omega),zXc]⟩)
  (fun n hI H K D=>by
   show (zmC g a most i k n x.Args.length x).ev H K D=_;unfold zmC;simp only [Wy.ev_i,Wy.ev_k,tT,Nat.lt_irrefl]) fuel 0 (1+n) (by omega) (Nat.zero_le _) trivial
 rw [List.drop_zero,zc4,z8C] at h;exact h
theorem zbep (x:Atom) (hx:NesG g x) (a:yC) (most i k:Int) (fuel n:Nat) (hf:x.Items.length<fuel):
  zFh g fuel a most i k ((1+n:Nat):Int) 0 x=(true,(a,most,i,k,((1+max n (zld x.Items):Nat):Int))):=by
 obtain ⟨⟨h1,h2⟩,⟨h5,h6,h7⟩,h3,h4⟩:=hx
 have h:=zc3 (W:=zyH g) (z:=default) (l:=x.Items) (fun j (n:Nat)=>(a,most,i,k,(),(n:Int),(j:Int),())) (fun _ _=>(x,())) (fun y n=>.inl (max n (1+zbp y.Ann))) (fun n=>(a,most,i,k,(n:Int))) (fun i n=>True)
  (fun j n hi hI=>.inl ⟨_,rfl,trivial,fun H K D=>by
   have h8:=h7 _ (zt hi);show (zmA g a most i k n j x).ev H K D=_;unfold zmA;simp only [Wy.ev_i,Wy.ev_k,Wy.ev_h,Wy.ev_bn,Wy.ev_d,tT,hi,h4 _ (zt hi)];rw [zgz (by omega),show (1:Int)=((1:Nat):Int) from rfl,zot (n:=1) (by omega),zXc]⟩)
  (fun n hI H K D=>by
   show (zmA g a most i k n x.Items.length x).ev H K D=_;unfold zmA;simp only [Wy.ev_i,Wy.ev_k,tT,Nat.lt_irrefl]) fuel 0 (1+n) (by omega) (Nat.zero_le _) trivial
 rw [List.drop_zero,zc4,z6p] at h;exact h
theorem RNes_12' (x:Atom) (hx:NesG g x) (a:yC) (most i k:Int) (fuel:Nat) (hf:x.Args.length<fuel):zyI g fuel a most i k 1 0 x=(true,(a,most,i,k,((1+zmM x.Args:Nat):Int),x)):=by
 have h:=zbeb g x hx a most i k fuel 0 hf;rw [Nat.zero_max] at h; exact h
theorem zbfD (a:yC) (i:Nat) (hi:i<a.length) (hla:a.length≤1000000) (l:yD) (el:(a.getD i default).Factors=l) (hl:l.length≤1000000) (hg:∀ f∈l,NesG g f.Atom) (fuel n:Nat) (hf:l.length<fuel):
  zHk g fuel a n i 0=(true,(a,((max n (zdq l):Nat):Int),(i:Int))):=by
 have h:=zc3 (W:=zz1 g) (z:=default) (l:=l) (fun k (n:Nat)=>(a,(n:Int),(i:Int),(k:Int),())) (fun _ _=>()) (fun y n=>.inl (max n (zn3 y.Atom))) (fun n=>(a,(n:Int),(i:Int))) (fun k n=>True)
  (fun k n hk hI=>.inl ⟨_,rfl,trivial,fun H K D=>by
   have hx:=hg _ (zt hk);have h5:=hx.2.1.1;show (znG g a n i k).ev H K D=_;unfold znG;simp only [Wy.ev_i,Wy.ev_k,Wy.ev_h,Wy.ev_bn,Wy.ev_d,tT,hi,el,hk,Atom.eta];generalize l.getD k default=f at *;rw [zDD] at h5 ⊢;by_cases hz:f.Atom.Kind=0
   ·have e:(f.Atom.Kind==0)=true:=by simp [hz]
    simp only [e,cond_true];rw [if_pos hz,Nat.max_zero,zgz (by omega)]
   ·have e:(f.Atom.Kind==0)=false:=by simp [hz]
    have hx1:=hx.1;simp only [e,cond_false];rw [if_neg hz] at h5 ⊢;rw [RNes_12' g _ hx _ _ _ _ _ (by omega)]
    simp only [cond_true,Int.toNat_natCast,Atom.eta];rw [zbep g _ hx _ _ _ _ _ _ (by omega)]
    simp only [cond_true];rw [zgz (by omega),zXc]⟩)
  (fun n hI H K D=>by
   show (znG g a n i l.length).ev H K D=_;unfold znG;simp only [Wy.ev_i,Wy.ev_k,tT,hi,el,Nat.lt_irrefl]) fuel 0 n (by omega) (Nat.zero_le _) trivial
 rw [List.drop_zero,zc4,zSQ] at h;exact h
theorem zbff (l:yC) (hl:l.length≤1000000) (hg:∀ t∈l,t.Factors.length≤1000000∧∀ f∈t.Factors,NesG g f.Atom) (fuel n:Nat) (hf:l.length<fuel):
  zGH g fuel l n 0=(true,((max n (zbp l):Nat):Int)):=by
 have h:=zc3 (W:=zz4 g) (z:=default) (l:=l) (fun i (n:Nat)=>(l,(n:Int),(i:Int),())) (fun _ _=>()) (fun y n=>.inl (max n (zdq y.Factors))) (fun n=>(n:Int)) (fun i n=>True)
  (fun i n hi hI=>.inl ⟨_,rfl,trivial,fun H K D=>by
   obtain ⟨h1,h3⟩:=hg _ (zt hi);have hz:=zLO l i hi;show (znB g l n i).ev H K D=_;unfold znB;simp only [Wy.ev_i,Wy.ev_k,Wy.ev_h,Wy.ev_bn,Wy.ev_d,tT,hi,Atom.eta];rw [zbfD g l i hi hl _ rfl h1 h3 _ _ (by omega)]
   simp only [cond_true];rw [zgz (by omega)]⟩)
  (fun n hI H K D=>by
   show (znB g l n l.length).ev H K D=_;unfold znB;simp only [Wy.ev_i,Wy.ev_k,tT,Nat.lt_irrefl]) fuel 0 n (by omega) (Nat.zero_le _) trivial
 rw [List.drop_zero,zc4,z4v] at h;exact h
end
theorem z2V:∀ (n d:Nat) (a:yC),zr d a→d≤n→d≤100→zgb n a=(true,(zbp a:Int))∧zlp n a=(true,(zbp a:Int))
 | n,0,a,h,hd,hs=>h.elim
 | 0,d+1,a,h,hd,hs=>by omega
 | n+1,d+1,a,h,hd,hs=>by
  have hg:=fun y (hy:zr d y)=>z2V n d y hy (by omega) (by omega)
  have hsub:∀ t∈a,t.Factors.length≤1000000∧∀ f∈t.Factors,NesG (zgb n) f.Atom∧NesG (zlp n) f.Atom:=fun t ht=>by
   obtain ⟨h1,h2⟩:=zOB h ht;refine ⟨h1,fun f hf=> ?_⟩
   obtain ⟨h3,h4,h5⟩:=h2 f hf;have q1:∀ y∈f.Atom.Args,zbp y≤d:=fun y hy=>zRd d y (h4 y hy)
   have q2:∀ y∈f.Atom.Items,zbp y.Ann≤d:=fun y hy=>zRd d y.Ann (h5 y hy)
   have q3:zn3 f.Atom≤1000:=by
    have r1:=z2N _ q1; have r2:=zY7 _ q2;rw [zDD]; split <;>omega
   have q4:zn3 f.Atom≤1000∧(∀ y∈f.Atom.Args,zbp y≤1000)∧∀ y∈f.Atom.Items,zbp y.Ann≤1000:=⟨q3,fun y hy=>by have:=q1 y hy; omega,fun y hy=>by have:=q2 y hy; omega⟩
   exact ⟨⟨h3,q4,fun y hy=>(hg y (h4 y hy)).1,fun y hy=>(hg _ (h5 y hy)).1⟩,⟨h3,q4,fun y hy=>(hg y (h4 y hy)).2,fun y hy=>(hg _ (h5 y hy)).2⟩⟩
  constructor
  ·rw [zMW];unfold zpL zBJ;have h1:=zbgk (zgb n) a h.1 (fun t ht=>⟨(hsub t ht).1,fun f hf=>((hsub t ht).2 f hf).1⟩) (Int.toNat 0+a.length+(Int.ofNat a.length).toNat +Int.toNat 0+1) 0 (by omega)
   rw [show ((0:Nat):Int)=(0:Int) from rfl,Nat.zero_max] at h1
   rw [Wy.fin_bn,show Int.ofNat a.length=(a.length:Int) from rfl] at *
   rw [h1]; rfl
  ·rw [zVX];unfold zy3 zJe;have h1:=zbff (zlp n) a h.1 (fun t ht=>⟨(hsub t ht).1,fun f hf=>((hsub t ht).2 f hf).2⟩) (a.length+Int.toNat 0+Int.toNat 0+1+szTs a) 0 (by omega)
   rw [show ((0:Nat):Int)=(0:Int) from rfl,Nat.zero_max] at h1
   rw [Wy.fin_bn,h1]; rfl
theorem zz0 (x y:Int):zd6 x y=(true,cmpI x y):=by
 unfold zd6 zI8 ztb zNf cmpI;by_cases h1:x<y
 ·simp [h1,Wy.fin_i,Wy.fin_k]
 ·by_cases h2:y<x <;>simp [h1,h2,Wy.fin_i,Wy.fin_k]
theorem zxw (x y:Int):zi6 x y=(true,cmpI x y):=by
 unfold zi6 zFd zn6 zIR cmpI;by_cases h1:x<y
 ·simp [h1,Wy.fin_i,Wy.fin_k]
 ·by_cases h2:y<x <;>simp [h1,h2,Wy.fin_i,Wy.fin_k]
def zvq:List Int→Int
 | []=>0
 | x::r=>if x=0 then zvq r else x
theorem z9u (l:List Int) (hl:l.length≤1000000):∀ (n i:Nat),l.length<i+n→i≤l.length→∃ r,zIx n 0 l l.length i=(true,r)∧(r=.inl (zvq (l.drop i))∨(r=.inr 0∧zvq (l.drop i)=0))
 | 0,i,h,h2=>by omega
 | n+1,i,h,h2=>by
  show ∃ r,(zIs 0 l l.length i).ev (fun x y=>zIx n x.1 x.2.1 x.2.2.1 x.2.2.2.1) (fun r=>(true,r)) (false,.inl default)=(true,r)∧_
  unfold zIs;by_cases hi:i<l.length
  ·simp only [Wy.ev_i,Wy.ev_k,Wy.ev_h,Int.ofNat_eq_natCast,zBL,zfc,decide_true,decide_false,Bool.and_self,Bool.true_and,Bool.and_true,cond_true,cond_false,Int.toNat_natCast,Bool.not_true,Bool.not_false,hi];obtain ⟨r,h1,h3⟩:=z9u l hl n (i+1) (by omega) (by omega)
   rw [zbB hi,zR (by omega),h1]
   generalize l.getD i default=x;by_cases hx:x=0
   ·have e:(x != 0)=false:=by simp [hx]
    simp only [e,cond_false,zvq,hx,if_true];exact ⟨r,rfl,h3⟩
   ·have e:(x != 0)=true:=by simp [hx]
    simp only [e,cond_true,zvq,hx,if_false];exact ⟨_,rfl,.inl rfl⟩
  ·simp only [Wy.ev_i,Wy.ev_k,Wy.ev_h,Int.ofNat_eq_natCast,zBL,zfc,decide_true,decide_false,Bool.and_self,Bool.true_and,Bool.and_true,cond_true,cond_false,Int.toNat_natCast,Bool.not_true,Bool.not_false,hi,zc2 hi];exact ⟨_,rfl,.inr ⟨rfl,rfl⟩⟩
theorem zyc (l:List Int) (hl:l.length≤1000000):zm3 l=(true,zvq l):=by
 unfold zm3 zWp;obtain ⟨r,h1,h2⟩:=z9u l hl (Int.toNat 0+l.length+(Int.ofNat l.length).toNat +Int.toNat 0+1) 0 (by simp; omega) (by omega)
 rw [show ((0:Nat):Int)=(0:Int) from rfl] at h1
 rw [Wy.fin_bn,show Int.ofNat l.length=(l.length:Int) from rfl] at *
 rw [h1];rw [List.drop_zero] at h2;rcases h2 with rfl | ⟨rfl,h2⟩
 ·rfl
 ·rw [h2]; rfl
section
variable {α:Type}
def lexG (c:α→α→Int):List α→List α→Int
 | [],[]=>0
 | [],_::_=> -1
 | _::_,[]=>1
 | x::a,y::b=>if c x y=0 then lexG c a b else c x y
theorem zNr (e:α→TT) {c:α→α→Int}:∀ (a b:List α),(∀ x∈a,∀ y∈b,c x y=cmpT (e x) (e y))→lexG c a b=cmpL (a.map e) (b.map e)
 | [],[],_=>by simp only [lexG,List.map,cmpL]
 | [],_::_,_=>by simp only [lexG,List.map,cmpL]
 | _::_,[],_=>by simp only [lexG,List.map,cmpL]
 | x::a,y::b,h=>by
  simp only [lexG,List.map,cmpL];rw [h x (by simp) y (by simp),zNr e a b fun x hx y hy=>h x (by simp [hx]) y (by simp [hy])]
variable [Inhabited α]
def z6b (g:α→α→Bool×Int) (s1:List α) (s2:List α) (t11:List α) (t12:Int) (t13:Int):Wy (List α×List α×Unit×List α×Int×Int×Unit) (Unit) (Int⊕(List α×List α)):=.i (decide (t13<t12)) (.i (decide ((0:Int)≤t13)&&decide (t13<Int.ofNat t11.length)) (.i (decide (t13≥Int.ofNat s2.length)) (.k (.inl (1:Int))) (.i (decide ((0:Int)≤t13)&&decide (t13<Int.ofNat s2.length)) (.bn (g (t11.getD t13.toNat default) (s2.getD t13.toNat default)) fun r0=>.i (r0 != (0:Int)) (.k (.inl (r0))) (.h (s1,s2,(),t11,t12,(IntKind.i64.wrap (t13+(1:Int))),()) ())) .d)) .d) (.k (.inr (s1,s2)))
def zbaa (g:α→α→Bool×Int) (x:List α×List α×Unit×List α×Int×Int×Unit) (y:Unit):Wy (List α×List α×Unit×List α×Int×Int×Unit) (Unit) (Int⊕(List α×List α)):=z6b g x.1 x.2.1 x.2.2.2.1 x.2.2.2.2.1 x.2.2.2.2.2.1
def zbaW (g:α→α→Bool×Int) (n:Nat) (s1:List α) (s2:List α) (t11:List α) (t12:Int) (t13:Int):Bool×(Int⊕(List α×List α)):=zI (zbaa g) (.inl default) n (s1,s2,(),t11,t12,t13,()) ()
def CF (g:α→α→Bool×Int) (s1 s2:List α):Bool×Int:=(.bn (zbaW g (s1.length+s2.length+s1.length+(Int.ofNat s1.length).toNat +Int.toNat (0:Int)+(1:Nat)) s1 s2 s1 (Int.ofNat s1.length) (0:Int)) fun r2=>.i (isL r2) (.k (getL r2)) (.i (decide (Int.ofNat (getR r2).fst.length<Int.ofNat (getR r2).snd.length)) (.k (-1:Int)) (.k (0:Int))):Wy0 Int).fin default
theorem z84 (g:α→α→Bool×Int) (c:α→α→Int) (a b:List α) (ha:a.length≤1000000) (hg:∀ x∈a,∀ y∈b,g x y=(true,c x y)):∀ (n i:Nat),a.length<i+n→i≤a.length→i≤b.length→
  ∃ r,zbaW g n a b a a.length i=(true,r)∧((r=.inl (lexG c (a.drop i) (b.drop i)))∨(r=.inr (a,b)∧lexG c (a.drop i) (b.drop i)=if a.length<b.length then -1 else 0))
 | 0,i,h,h2,h3=>by omega
 | n+1,i,h,h2,h3=>by
  show ∃ r,(z6b g a b a a.length i).ev (fun x y=>zbaW g n x.1 x.2.1 x.2.2.2.1 x.2.2.2.2.1 x.2.2.2.2.2.1) (fun r=>(true,r)) (false,.inl default)=(true,r)∧_
  unfold z6b;by_cases hi:i<a.length
  ·by_cases hi':i<b.length
   ·have hg':¬ b.length≤i:=by omega
    simp only [Wy.ev_i,Wy.ev_k,Wy.ev_h,Wy.ev_bn,Wy.ev_d,Int.ofNat_eq_natCast,zBL,zfc,decide_true,decide_false,Bool.and_self,Bool.true_and,Bool.and_true,cond_true,cond_false,Int.toNat_natCast,Bool.not_true,Bool.not_false,hi,hi',zbbG,hg',hg _ (zt hi) _ (zt hi')];rw [zbB hi,zbB hi',zR (by omega)]
    simp only [lexG];generalize c (a.getD i default) (b.getD i default)=z;by_cases hx:z=0
    ·have e:(z != 0)=false:=by simp [hx]
     simp only [e,cond_false,hx,if_true];exact z84 g c a b ha hg n (i+1) (by omega) (by omega) (by omega)
    ·have e:(z != 0)=true:=by simp [hx]
     simp only [e,cond_true,hx,if_false];exact ⟨_,rfl,.inl rfl⟩
   ·have hg':b.length≤i:=by omega
    simp only [Wy.ev_i,Wy.ev_k,Wy.ev_h,Wy.ev_bn,Wy.ev_d,Int.ofNat_eq_natCast,zBL,zfc,decide_true,decide_false,Bool.and_self,Bool.true_and,Bool.and_true,cond_true,cond_false,Int.toNat_natCast,Bool.not_true,Bool.not_false,hi,zbbG,hg'];refine ⟨_,rfl,.inl ?_⟩;rw [zbB hi,zc2 hi']; rfl
  ·simp only [Wy.ev_i,Wy.ev_k,Wy.ev_h,Wy.ev_bn,Wy.ev_d,Int.ofNat_eq_natCast,zBL,zfc,decide_true,decide_false,Bool.and_self,Bool.true_and,Bool.and_true,cond_true,cond_false,Int.toNat_natCast,Bool.not_true,Bool.not_false,hi];refine ⟨_,rfl,.inr ⟨rfl, ?_⟩⟩;rw [zc2 hi];by_cases hi':i<b.length
   ·rw [zbB hi',if_pos (by omega)]; rfl
   ·rw [zc2 hi',if_neg (by omega)]; rfl
theorem zbgs (g:α→α→Bool×Int) (c:α→α→Int) (a b:List α) (ha:a.length≤1000000) (hg:∀ x∈a,∀ y∈b,g x y=(true,c x y)):CF g a b=(true,lexG c a b):=by
 unfold CF;obtain ⟨r,h1,h2⟩:=z84 g c a b ha hg (a.length+b.length+a.length+(Int.ofNat a.length).toNat +Int.toNat 0+1) 0 (by simp; omega) (by omega) (by omega)
 rw [show ((0:Nat):Int)=(0:Int) from rfl] at h1
 rw [Wy.fin_bn,show Int.ofNat a.length=(a.length:Int) from rfl] at *
 rw [h1];simp only [List.drop_zero] at h2;rcases h2 with rfl | ⟨rfl,h2⟩
 ·rfl
 ·rw [h2];simp only [Wy.fin_i,Wy.fin_k,Int.ofNat_eq_natCast,zBL,zfc,decide_true,decide_false,Bool.and_self,Bool.true_and,Bool.and_true,cond_true,cond_false,Int.toNat_natCast,Bool.not_true,Bool.not_false,isL,getR];by_cases h3:a.length<b.length <;>simp [h3]
end
theorem zXn {α:Type} [Inhabited α] (e:α→TT) (g:α→α→Bool×Int) (a b:List α) (ha:a.length≤1000000) (hg:∀ x∈a,∀ y∈b,g x y=(true,cmpT (e x) (e y))):CF g a b=(true,cmpL (a.map e) (b.map e)):=by
 rw [zbgs g (fun x y=>cmpT (e x) (e y)) a b ha hg,zNr e a b fun _ _ _ _=>rfl]
theorem Factor.eta2 (x:Factor):(FactorOf.mk (Atom.mk x.Atom.Kind x.Atom.Row x.Atom.Args x.Atom.Func x.Atom.Items x.Atom.Op x.Atom.Bound) x.Exp:Factor)=x:=by rw [Atom.eta]
theorem zbde (g):zbS g=CF g:=rfl
theorem zbaQ (g):zby g=CF g:=by
 have h:zbR g=zbaa g:=by
  funext x y
  unfold zbR zeg zbaa z6b;rw [Factor.eta2,Factor.eta2]
 funext a b
 unfold zby zej zed;rw [h]; rfl
theorem zbeh (g):zbr g=CF g:=rfl
theorem zbc4 (g):zbH g=CF g:=rfl
theorem zMh (a b:Value):zta a b=(true,cmpT (trV a) (trV b)):=by
 unfold zta zNk;have h:(strings_Compare a.Text b.Text).2=cmpT (trB a.Text) (trB b.Text):=by rw [← z9q]; rfl
 simp only [zz0,zxw,Wy.fin_bn,cond_true,h];rw [zyc _ (by simp)]
 simp only [Wy.fin_k,cond_true,trV,cmpT,cmpL,zvq];rfl
theorem zPC:∀ n,
  (∀ d a b,zr d a→10*d≤n→zf4 n a b=(true,cmpL (zdy a) (zdy b)))∧
  (∀ d a b,zr d a→10*d≤n+1→zbT n a b=(true,cmpL (zdy a) (zdy b)))∧
  (∀ d x y,zdQ (zr d) x.Factors→10*d+10≤n+2→ziU n x y=(true,cmpT (zzV x) (zzV y)))∧
  (∀ d x y,zdQ (zr d) x.Factors→10*d+10≤n+3→zha n x y=(true,cmpL (zbA x.Factors) (zbA y.Factors)))∧
  (∀ d l l',zdQ (zr d) l→10*d+10≤n+4→zbW n l l'=(true,cmpL (zbA l) (zbA l')))∧
  (∀ d x y,zcU (zr d) x.Atom→10*d+10≤n+5→zfU n x y=(true,cmpT (zhC x) (zhC y)))∧
  (∀ d x y,zcU (zr d) x→10*d+10≤n+6→zg0 n x y=(true,cmpT (zdJ x) (zdJ y)))∧
  (∀ d a b,a.length≤1000000→(∀ x∈a,zr d x)→10*d+10≤n+7→zbq n a b=(true,cmpL (zxS a) (zxS b)))∧
  (∀ d a b,a.length≤1000000→(∀ x∈a,zr d x.Ann)→10*d+10≤n+7→zbJ n a b=(true,cmpL (zhr a) (zhr b)))∧
  (∀ d x y,zr d x.Ann→10*d+10≤n+8→ze9 n x y=(true,cmpT (zbc x) (zbc y)))
 | 0=>by
  refine ⟨?_, ?_, ?_, ?_, ?_, ?_, ?_, ?_, ?_, ?_⟩
  ·intro d a b h hd; have:d=0:=by omega
   subst this; exact h.elim
  ·intro d a b h hd; have:d=0:=by omega
   subst this; exact h.elim
  all_goals (intros; omega)
 | n+1=>by
  obtain ⟨h1,h2,h3,h4,h5,h6,h7,h8,h9,h10⟩:=zPC n;refine ⟨?_, ?_, ?_, ?_, ?_, ?_, ?_, ?_, ?_, ?_⟩
  ·intro d a b h hd;rw [zMH];unfold zpv zBP;rw [Wy.fin_bn,h2 d a b h (by omega)]; rfl
  ·intro d a b h hd;cases d with
   | zero=>exact h.elim
   | succ d=>
    rw [zh9,zbde,zGM,zGM];exact zXn zzV _ a b h.1 fun x hx y hy=>h3 d x y (h.2 x hx) (by omega)
  ·intro d x y h hd;rw [zHZ];unfold zl9 zy1;rw [Wy.fin_bn,h4 d x y h (by omega)]
   simp only [cond_true,Wy.fin_bn,zxw];rw [zyc _ (by simp)]
   obtain ⟨c,l⟩:=x; obtain ⟨c',l'⟩:=y;simp only [cond_true,Wy.fin_k,zvq,zzV,cmpT,cmpL];rfl
  ·intro d x y h hd;rw [zGg];unfold zkF zww;rw [Wy.fin_bn,h5 d _ _ h (by omega)]; rfl
  ·intro d l l' h hd;rw [ziL,zbaQ,zyf,zyf];exact zXn zhC _ l l' h.1 fun x hx y hy=>h6 d x y (h.2 x hx) (by omega)
  ·intro d x y h hd;rw [zEt];unfold zjk zuL;rw [Atom.eta,Atom.eta,Wy.fin_bn,h7 d _ _ h (by omega)]
   simp only [cond_true,Wy.fin_bn,zz0];rw [zyc _ (by simp)]
   obtain ⟨c,l⟩:=x; obtain ⟨c',l'⟩:=y;simp only [cond_true,Wy.fin_k,zvq,zhC,cmpT,cmpL];rfl
  ·intro d x y h hd;rw [zFt];unfold zkH zwx;simp only [cond_true,Wy.fin_bn,zz0,zMh,h8 d x.Args y.Args h.1.1 h.2.1 (by omega),h9 d x.Items y.Items h.1.2.1 (fun w hw=>(h.2.2 w hw).2) (by omega)]
   rw [zyc _ (by simp)]
   obtain ⟨k,r,a,f,i,o,v⟩:=x; obtain ⟨k',r',a',f',i',o',v'⟩:=y;simp only [cond_true,Wy.fin_k,zvq,zdJ,cmpT,cmpL];rfl
  ·intro d a b h0 h hd;rw [zfr,zbeh,zDZ,zDZ];exact zXn (fun x=>TT.l (zdy x)) _ a b h0 fun x hx y hy=>by rw [h1 d x y (h x hx) (by omega)]; simp only [cmpT]
  ·intro d a b h0 h hd;rw [zgy,zbc4,zna,zna];exact zXn zbc _ a b h0 fun x hx y hy=>h10 d x y (h x hx) (by omega)
  ·intro d x y h hd;rw [zFF];unfold zkN zwB;simp only [cond_true,Wy.fin_bn,zMh,h1 d _ _ h (by omega)]
   rw [zyc _ (by simp)]
   obtain ⟨c,l⟩:=x; obtain ⟨c',l'⟩:=y;simp only [cond_true,Wy.fin_k,zvq,zbc,cmpT,cmpL];rfl
theorem zPf {d:Nat} {a:yC} (h:zr d a) (hd:d≤100) (b:yC):zAv a b=(true,cmpL (zdy a) (zdy b)):=(zPC 1000).1 d a b h (by omega)
theorem zxX {d:Nat} {x:Term} (h:zdQ (zr d) x.Factors) (hd:d≤99) (y:Term):zb1 x y=(true,cmpL (zbA x.Factors) (zbA y.Factors)):=(zPC 1000).2.2.2.1 d x y h (by omega)
theorem zx5 {d:Nat} {x:Atom} (h:zcU (zr d) x) (hd:d≤99) (y:Atom):ziT x y=(true,cmpT (zdJ x) (zdJ y)):=(zPC 1000).2.2.2.2.2.2.1 d x y h (by omega)
theorem zjW {d:Nat} {x:Weighted} (h:zr d x.Ann) (hd:d≤99) (y:Weighted):zbe x y=(true,cmpT (zbc x) (zbc y)):=(zPC 1000).2.2.2.2.2.2.2.2.2 d x y h (by omega)
theorem zrI {d:Nat} {a:yC} (h:zr d a) (hd:d≤100) (b:yC):zeW a b=(true,decide (a=b)):=by
 unfold zeW zGI;rw [Wy.fin_bn,zPf h hd];simp only [cond_true,Wy.fin_k];congr 1;by_cases e:a=b
 ·subst e; rw [zVr]; simp
 ·have:cmpL (zdy a) (zdy b)≠0:=fun h=>e (zGK _ _ (zKh _ _ h))
  simp [e,this]
theorem zZa (s:ByteArray):∀ (n i:Nat) (r:List UInt8),s.size≤i+n→ByteArray.toList.loop s i r=r.reverse++s.data.toList.drop i
 | 0,i,r,h=>by
  rw [ByteArray.toList.loop,if_neg (by omega),List.drop_eq_nil_of_le (by rw [← Lib.size_eq]; omega),List.append_nil]
 | n+1,i,r,h=>by
  rw [ByteArray.toList.loop];by_cases hi:i<s.size
  ·have hi':i<s.data.toList.length:=by rw [← Lib.size_eq]; exact hi
   rw [if_pos hi,zZa s n (i+1) _ (by omega),List.drop_eq_getElem_cons hi',List.reverse_cons,List.append_assoc]
   congr 1
   have:s.get! i=s.data.toList[i]:=by
    have h':i<s.data.size:=hi;show s.data[i]! =s.data.toList[i];rw [getElem!_pos s.data i h']; rfl
   rw [this]; rfl
  ·rw [if_neg hi,List.drop_eq_nil_of_le (by rw [← Lib.size_eq]; omega),List.append_nil]
theorem toList_eq (s:ByteArray):s.toList=s.data.toList:=by
 rw [ByteArray.toList,zZa s s.size 0 [] (by omega)]; rfl
theorem zGX {s t:ByteArray} (h:s.data.toList=t.data.toList):s=t:=by
 cases s; cases t;congr 1;exact Array.toList_inj.1 h
theorem zbaz (s t:ByteArray):(s.toList==t.toList)=decide (s.data.toList=t.data.toList):=by
 rw [toList_eq,toList_eq];cases hb:(s.data.toList==t.data.toList) with
 | true=>rw [decide_eq_true (beq_iff_eq.1 hb)]
 | false=>rw [decide_eq_false (fun h=>by rw [beq_iff_eq.2 h] at hb; cases hb)]
theorem zUH (s t:ByteArray):(s.toList==t.toList)=decide (s=t):=by
 rw [zbaz];by_cases h:s=t
 ·rw [decide_eq_true h,decide_eq_true (by rw [h])]
 ·rw [decide_eq_false h,decide_eq_false fun e=>h (zGX e)]
theorem bne0 (z w:Int):(z != w)= !decide (z=w):=by by_cases h:z=w <;>simp [h]
theorem zSP:∀ a b:List UInt8,Op.bytesLess a b=decide (Lib.compareBytes a b<0)
 | [],[]=>by simp [Op.bytesLess,Lib.compareBytes]
 | _::_,[]=>by simp [Op.bytesLess,Lib.compareBytes]
 | [],_::_=>by simp [Op.bytesLess,Lib.compareBytes]
 | x::a,y::b=>by
  simp only [Op.bytesLess,Lib.compareBytes];by_cases p:x<y
  ·simp [p]
  ·by_cases q:y<x
   ·have hne:¬ x=y:=fun e=>by subst e; exact p q
    simp [p,q,hne]
   ·have he:x=y:=UInt8.toNat_inj.1 (by rw [UInt8.lt_iff_toNat_lt] at p q; omega)
    subst he;simp [p,zSP a b]
theorem zKN (a b:Value):zou a b=(true,cmpT (trV a) (trV b)):=by
 unfold zou zNq zAF zWF;rw [zUH,toList_eq,toList_eq,zSP,z9q];simp only [trV,cmpT,cmpL,cmpI];simp only [Wy.fin_i,Wy.fin_bn,Wy.fin_k,cond_true,bne0];by_cases h1:a.Kind=b.Kind
 ·by_cases h2:a.Int=b.Int
  ·by_cases h3:a.Text=b.Text
   ·simp [h1,h2,h3,zGQ]
   ·have h4:cmpT (trB a.Text) (trB b.Text)≠0:=fun e=>by
     have:=zIL _ _ (TT.l.inj (zvo _ _ e));exact h3 (zGX this)
    have h5:=z69 (trB a.Text) (trB b.Text);simp only [trB,cmpT] at h4 h5;simp only [trB,cmpT];rcases h5 with h5 | h5 | h5
    ·simp [h1,h2,h3,h5]
    ·exact absurd h5 h4
    ·simp [h1,h2,h3,h5]
  ·by_cases h3:a.Int<b.Int
   ·simp [h1,h2,h3]
   ·simp [h1,h2,h3,show b.Int<a.Int by omega]
 ·by_cases h3:a.Kind<b.Kind
  ·simp [h1,h3]
  ·simp [h1,h3,show b.Kind<a.Kind by omega]
theorem zoa (x y:Int):zcM x y=(true,cmpI x y):=by
 unfold zcM zQu cmpI;by_cases h1:x<y
 ·simp [h1,Wy.fin_i,Wy.fin_k]
 ·by_cases h2:y<x <;>simp [h1,h2,Wy.fin_i,Wy.fin_k]
theorem zUb (x y:RowID):zmR x y=(true,if cmpI x.Table y.Table=0 then cmpI x.Seq y.Seq else cmpI x.Table y.Table):=by
 unfold zmR zG7;simp only [zoa,Wy.fin_i,Wy.fin_bn,Wy.fin_k,cond_true,bne0];by_cases h:cmpI x.Table y.Table=0
 ·simp [h]
 ·simp [h]
section
variable {α:Type} [Inhabited α]
def z6j (p q:α→α→Bool×Int) (a:List α) (b:List α) (i:Int):Wy (List α×List α×Int×Unit) (Unit) (Int⊕(List α×List α)):=.i (decide (i<Int.ofNat a.length)) (.i (decide (i<Int.ofNat b.length)) (.i (decide ((0:Int)≤i)&&decide (i<Int.ofNat a.length)) (.i (decide ((0:Int)≤i)&&decide (i<Int.ofNat b.length)) (.bn (p (a.getD i.toNat default) (b.getD i.toNat default)) fun r1=>.i (r1 != (0:Int)) (.k (.inl (r1))) (.i (decide ((0:Int)≤i)&&decide (i<Int.ofNat a.length)) (.i (decide ((0:Int)≤i)&&decide (i<Int.ofNat b.length)) (.bn (q (a.getD i.toNat default) (b.getD i.toNat default)) fun r0=>.i (r0 != (0:Int)) (.k (.inl (r0))) (.h (a,b,(IntKind.i64.wrap (i+(1:Int))),()) ())) .d) .d)) .d) .d) (.k (.inr (a,b)))) (.k (.inr (a,b)))
def zbaP (p q:α→α→Bool×Int) (x:List α×List α×Int×Unit) (y:Unit):Wy (List α×List α×Int×Unit) (Unit) (Int⊕(List α×List α)):=z6j p q x.1 x.2.1 x.2.2.1
def zbao (p q:α→α→Bool×Int) (n:Nat) (a:List α) (b:List α) (i:Int):Bool×(Int⊕(List α×List α)):=zI (zbaP p q) (.inl default) n (a,b,i,()) ()
def RG (p q:α→α→Bool×Int) (a b:List α):Bool×Int:=(.bn (zbao p q (a.length+b.length+Int.toNat (0:Int)+(1:Nat)) a b (0:Int)) fun r5=>.i (isL r5) (.k (getL r5)) (.bn (zcM (Int.ofNat (getR r5).fst.length) (Int.ofNat (getR r5).snd.length)) fun r4=>.k r4):Wy0 Int).fin default
theorem z9E (p q:α→α→Bool×Int) (c1 c2:α→α→Int) (a b:List α) (ha:a.length≤1000000) (hp:∀ x∈a,∀ y∈b,p x y=(true,c1 x y)) (hq:∀ x∈a,∀ y∈b,q x y=(true,c2 x y)):∀ (n i:Nat),a.length<i+n→i≤a.length→i≤b.length→
  ∃ r,zbao p q n a b i=(true,r)∧((r=.inl (lexG (fun x y=>if c1 x y=0 then c2 x y else c1 x y) (a.drop i) (b.drop i)))∨(r=.inr (a,b)∧lexG (fun x y=>if c1 x y=0 then c2 x y else c1 x y) (a.drop i) (b.drop i)=cmpI a.length b.length))
 | 0,i,h,h2,h3=>by omega
 | n+1,i,h,h2,h3=>by
  show ∃ r,(z6j p q a b i).ev (fun x y=>zbao p q n x.1 x.2.1 x.2.2.1) (fun r=>(true,r)) (false,.inl default)=(true,r)∧_
  unfold z6j;by_cases hi:i<a.length
  ·by_cases hi':i<b.length
   ·simp only [Wy.ev_i,Wy.ev_k,Wy.ev_h,Wy.ev_bn,Wy.ev_d,tT,hi,hi',hp _ (zt hi) _ (zt hi'),hq _ (zt hi) _ (zt hi')];rw [zbB hi,zbB hi',zR (by omega)]
    simp only [lexG];generalize c1 (a.getD i default) (b.getD i default)=z1;generalize c2 (a.getD i default) (b.getD i default)=z2;by_cases hx:z1=0
    ·have e:(z1 != 0)=false:=by simp [hx]
     by_cases hx2:z2=0
     ·have e2:(z2 != 0)=false:=by simp [hx2]
      simp only [e,e2,cond_false,hx,hx2,if_true];exact z9E p q c1 c2 a b ha hp hq n (i+1) (by omega) (by omega) (by omega)
     ·have e2:(z2 != 0)=true:=by simp [hx2]
      simp only [e,e2,cond_false,cond_true,hx,hx2,if_true,if_false];exact ⟨_,rfl,.inl rfl⟩
    ·have e:(z1 != 0)=true:=by simp [hx]
     simp only [e,cond_true,hx,if_false];exact ⟨_,rfl,.inl rfl⟩
   ·simp only [Wy.ev_i,Wy.ev_k,Wy.ev_h,Wy.ev_bn,Wy.ev_d,tT,hi,hi'];refine ⟨_,rfl,.inr ⟨rfl, ?_⟩⟩;rw [zbB hi,zc2 hi'];unfold cmpI; rw [if_neg (by omega),if_pos (by omega)]; rfl
  ·simp only [Wy.ev_i,Wy.ev_k,Wy.ev_h,Wy.ev_bn,Wy.ev_d,tT,hi];refine ⟨_,rfl,.inr ⟨rfl, ?_⟩⟩;rw [zc2 hi];by_cases hi':i<b.length
   ·rw [zbB hi']; unfold cmpI; rw [if_pos (by omega)]; rfl
   ·rw [zc2 hi']; unfold cmpI; rw [if_neg (by omega),if_neg (by omega)]; rfl
theorem zbgp (p q:α→α→Bool×Int) (c1 c2:α→α→Int) (a b:List α) (ha:a.length≤1000000) (hp:∀ x∈a,∀ y∈b,p x y=(true,c1 x y)) (hq:∀ x∈a,∀ y∈b,q x y=(true,c2 x y)):RG p q a b=(true,lexG (fun x y=>if c1 x y=0 then c2 x y else c1 x y) a b):=by
 unfold RG;obtain ⟨r,h1,h2⟩:=z9E p q c1 c2 a b ha hp hq (a.length+b.length+Int.toNat 0+1) 0 (by simp; omega) (by omega) (by omega)
 rw [show ((0:Nat):Int)=(0:Int) from rfl] at h1
 rw [Wy.fin_bn,h1];simp only [List.drop_zero] at h2;rcases h2 with rfl | ⟨rfl,h2⟩
 ·rfl
 ·rw [h2];simp only [Wy.fin_i,Wy.fin_k,Wy.fin_bn,zoa,tT,isL,getR]
end
theorem z3C {α:Type} [Inhabited α] (e:α→TT) (p q:α→α→Bool×Int) (c1 c2:α→α→Int) (a b:List α) (ha:a.length≤1000000) (hp:∀ x∈a,∀ y∈b,p x y=(true,c1 x y)) (hq:∀ x∈a,∀ y∈b,q x y=(true,c2 x y))
  (hc:∀ x y,(if c1 x y=0 then c2 x y else c1 x y)=cmpT (e x) (e y)):RG p q a b=(true,cmpL (a.map e) (b.map e)):=by
 rw [zbgp p q c1 c2 a b ha hp hq,zNr e a b fun x _ y _=>hc x y]
theorem zbcU (g):zy0 g=RG (fun x y=>g x.Factors y.Factors) (fun x y=>zcM x.Coeff y.Coeff):=rfl
theorem zbaF (g):zjA g=RG (fun x y=>g x.Atom y.Atom) (fun x y=>zcM x.Exp y.Exp):=by
 have h:zkK g=zbaP (fun x y=>g x.Atom y.Atom) (fun x y=>zcM x.Exp y.Exp):=by
  funext x y
  unfold zkK zyU zbaP z6j;rw [Atom.eta,Atom.eta]
 funext a b
 unfold zjA zzy zyV;rw [h]; rfl
theorem zbcq (g):zpJ g=RG (fun x y=>zou x.Value y.Value) (fun x y=>g x.Ann y.Ann):=rfl
theorem z4R (gI) (g:yC→yC→Bool×Int) (a b:Atom) (ha:a.Args.length≤1000000) (hg:∀ x∈a.Args,∀ y∈b.Args,g x y=(true,cmpL (zdy x) (zdy y))):∀ (n i:Nat),a.Args.length<i+n→i≤a.Args.length→i≤b.Args.length→
  ∃ r,zum g gI n i a b=(true,r)∧((r=.inl (lexG (fun x y=>cmpL (zdy x) (zdy y)) (a.Args.drop i) (b.Args.drop i))∧lexG (fun x y=>cmpL (zdy x) (zdy y)) (a.Args.drop i) (b.Args.drop i)≠0)∨(r=.inr (a,b)∧lexG (fun x y=>cmpL (zdy x) (zdy y)) (a.Args.drop i) (b.Args.drop i)=cmpI a.Args.length b.Args.length))
 | 0,i,h,h2,h3=>by omega
 | n+1,i,h,h2,h3=>by
  show ∃ r,(zuf g gI i a b).ev (fun x y=>zum g gI n x.2.2.1 y.1 y.2.1) (fun r=>(true,r)) (false,.inl default)=(true,r)∧_
  unfold zuf;by_cases hi:i<a.Args.length
  ·by_cases hi':i<b.Args.length
   ·simp only [Wy.ev_i,Wy.ev_k,Wy.ev_h,Wy.ev_bn,Wy.ev_d,tT,hi,hi',hg _ (zt hi) _ (zt hi')];rw [zbB hi,zbB hi',zR (by omega)]
    simp only [lexG];generalize cmpL (zdy (a.Args.getD i default)) (zdy (b.Args.getD i default))=z1;by_cases hx:z1=0
    ·have e:(z1 != 0)=false:=by simp [hx]
     simp only [e,cond_false,hx,if_true];exact z4R gI g a b ha hg n (i+1) (by omega) (by omega) (by omega)
    ·have e:(z1 != 0)=true:=by simp [hx]
     simp only [e,cond_true,hx,if_false];exact ⟨_,rfl,.inl ⟨rfl,hx⟩⟩
   ·simp only [Wy.ev_i,Wy.ev_k,Wy.ev_h,Wy.ev_bn,Wy.ev_d,tT,hi,hi'];refine ⟨_,rfl,.inr ⟨rfl, ?_⟩⟩;rw [zbB hi,zc2 hi'];unfold cmpI; rw [if_neg (by omega),if_pos (by omega)]; rfl
  ·simp only [Wy.ev_i,Wy.ev_k,Wy.ev_h,Wy.ev_bn,Wy.ev_d,tT,hi];refine ⟨_,rfl,.inr ⟨rfl, ?_⟩⟩;rw [zc2 hi];by_cases hi':i<b.Args.length
   ·rw [zbB hi']; unfold cmpI; rw [if_pos (by omega)]; rfl
   ·rw [zc2 hi']; unfold cmpI; rw [if_neg (by omega),if_neg (by omega)]; rfl
theorem zbex (gI) (g:yC→yC→Bool×Int) (x y:Atom) (ha:x.Args.length≤1000000) (hg:∀ a∈x.Args,∀ b∈y.Args,g a b=(true,cmpL (zdy a) (zdy b)))
  (hI:gI x.Items y.Items=(true,cmpL (zhr x.Items) (zhr y.Items))):zmp g gI x y=(true,cmpT (zdJ x) (zdJ y)):=by
 unfold zmp zCW;rw [Atom.eta,Atom.eta];obtain ⟨r,h1,h2⟩:=z4R gI g x y ha hg (Int.toNat 0+x.Args.length+x.Items.length+y.Args.length+y.Items.length+1) 0 (by omega) (by omega) (by omega)
 rw [show ((0:Nat):Int)=(0:Int) from rfl] at h1
 simp only [List.drop_zero] at h2;rw [zNr (fun a=>TT.l (zdy a)) x.Args y.Args (fun a _ b _=>by simp only [cmpT]), ← zDZ, ← zDZ] at h2
 simp only [zoa,zUb,Wy.fin_bn,Wy.fin_i,Wy.fin_k,cond_true,h1];obtain ⟨k,r0,a,f,i,o,v⟩:=x; obtain ⟨k',r',a',f',i',o',v'⟩:=y;simp only [zdJ,cmpT,cmpL,bne0] at *;by_cases e1:cmpI k k'=0
 rotate_left
 ·simp [e1]
 by_cases e2:cmpI r0.Table r'.Table=0
 rotate_left
 ·simp [e1,e2]
 by_cases e3:cmpI r0.Seq r'.Seq=0
 rotate_left
 ·simp [e1,e2,e3]
 rcases h2 with ⟨rfl,h2⟩ | ⟨rfl,h2⟩
 ·simp [e1,e2,e3,h2,isL,getL]
 simp only [e1,e2,e3,h2,isL,getR,tT,hI,if_true];by_cases e4:cmpI (a.length:Int) (a'.length:Int)=0
 rotate_left
 ·simp [e4]
 by_cases e5:cmpI f f'=0
 rotate_left
 ·simp [e4,e5]
 by_cases e6:cmpL (zhr i) (zhr i')=0
 rotate_left
 ·simp [e4,e5,e6]
 by_cases e7:cmpI o o'=0
 rotate_left
 ·simp [e4,e5,e6,e7]
 simp [e4,e5,e6,e7,zKN]
theorem zLq:∀ n,
  (∀ d a b,zr d a→10*d≤n→zn0 n a b=(true,cmpL (zdy a) (zdy b)))∧
  (∀ d l l',zdQ (zr d) l→10*d+10≤n+1→zjB n l l'=(true,cmpL (zbA l) (zbA l')))∧
  (∀ d x y,zcU (zr d) x→10*d+10≤n+2→zmi n x y=(true,cmpT (zdJ x) (zdJ y)))∧
  (∀ d a b,a.length≤1000000→(∀ x∈a,zr d x.Ann)→10*d+10≤n+3→zlg n a b=(true,cmpL (zhr a) (zhr b)))
 | 0=>by
  refine ⟨?_, ?_, ?_, ?_⟩
  ·intro d a b h hd; have:d=0:=by omega
   subst this; exact h.elim
  all_goals (intros; omega)
 | n+1=>by
  obtain ⟨h1,h2,h3,h4⟩:=zLq n;refine ⟨?_, ?_, ?_, ?_⟩
  ·intro d a b h hd;cases d with
   | zero=>exact h.elim
   | succ d=>
    rw [zVo,zbcU,zGM,zGM]
    exact z3C zzV _ _ (fun x y=>cmpL (zbA x.Factors) (zbA y.Factors)) (fun x y=>cmpI x.Coeff y.Coeff) a b h.1 (fun x hx y hy=>h2 d _ _ (h.2 x hx) (by omega)) (fun x _ y _=>zoa _ _) fun x y=>by
     obtain ⟨c,l⟩:=x; obtain ⟨c',l'⟩:=y;simp only [zzV,cmpT,cmpL];by_cases e:cmpI c c'=0 <;>simp [e]
  ·intro d l l' h hd;rw [zJF,zbaF,zyf,zyf]
   exact z3C zhC _ _ (fun x y=>cmpT (zdJ x.Atom) (zdJ y.Atom)) (fun x y=>cmpI x.Exp y.Exp) l l' h.1 (fun x hx y hy=>h3 d _ _ (h.2 x hx) (by omega)) (fun x _ y _=>zoa _ _) fun x y=>by
    obtain ⟨c,l⟩:=x; obtain ⟨c',l'⟩:=y;simp only [zhC,cmpT,cmpL];by_cases e:cmpI l l'=0 <;>simp [e]
  ·intro d x y h hd;rw [zOR];exact zbex _ _ x y h.1.1 (fun a ha b _=>h1 d a b (h.2.1 a ha) (by omega)) (h4 d _ _ h.1.2.1 (fun w hw=>(h.2.2 w hw).2) (by omega))
  ·intro d a b h0 h hd;rw [zMX,zbcq,zna,zna]
   exact z3C zbc _ _ (fun x y=>cmpT (trV x.Value) (trV y.Value)) (fun x y=>cmpL (zdy x.Ann) (zdy y.Ann)) a b h0 (fun x _ y _=>zKN _ _) (fun x hx y _=>h1 d _ _ (h x hx) (by omega)) fun x y=>by
    obtain ⟨c,l⟩:=x; obtain ⟨c',l'⟩:=y;simp only [zbc,cmpT,cmpL];by_cases e:cmpL (zdy l) (zdy l')=0 <;>simp [e]
theorem z0L {d:Nat} {a:yC} (h:zr d a) (hd:d≤100) (b:yC):zIz a b=(true,cmpL (zdy a) (zdy b)):=(zLq 1000).1 d a b h (by omega)
theorem zs4 {d:Nat} {l:yD} (h:zdQ (zr d) l) (hd:d≤99) (l':yD):zlK l l'=(true,cmpL (zbA l) (zbA l')):=(zLq 1000).2.1 d l l' h (by omega)
theorem zwS {d:Nat} {x:Atom} (h:zcU (zr d) x) (hd:d≤99) (y:Atom):zlR x y=(true,cmpT (zdJ x) (zdJ y)):=(zLq 1000).2.2.1 d x y h (by omega)
theorem zC5 {d:Nat} {a:yE} (h0:a.length≤1000000) (h:∀ x∈a,zr d x.Ann) (hd:d≤99) (b:yE):zt3 a b=(true,cmpL (zhr a) (zhr b)):=(zLq 1000).2.2.2 d a b h0 h (by omega)
theorem zTh {d:Nat} {a:yC} (h:zr d a) (hd:d≤100) (b:yC):ztx a b=(true,decide (a=b)):=by
 unfold ztx zUq;rw [Wy.fin_bn,z0L h hd];simp only [cond_true,Wy.fin_k];congr 1;by_cases e:a=b
 ·subst e; rw [zVr]; simp
 ·have:cmpL (zdy a) (zdy b)≠0:=fun h=>e (zGK _ _ (zKh _ _ h))
  simp [e,this]
def allN (c:Nat→Bool):Nat→Nat→Bool
 | 0,_=>true
 | n+1,i=>c i&&allN c n (i+1)
theorem zen {c:Nat→Bool}:∀ {n i},allN c n i=true↔∀ k,i≤k→k<i+n→c k=true
 | 0,i=>⟨fun _ k h1 h2=>by omega,fun _=>rfl⟩
 | n+1,i=>by
  simp only [allN,qc,zen (n:=n)];constructor
  ·rintro ⟨h1,h2⟩ k h3 h4
   by_cases e:k=i
   ·rw [e]; exact h1
   ·exact h2 k (by omega) (by omega)
  ·intro h;exact ⟨h i (by omega) (by omega),fun k h1 h2=>h k (by omega) (by omega)⟩
theorem z7a (c c':Nat→Bool):∀ n i,allN (fun k=>c k&&c' k) n i=(allN c n i&&allN c' n i)
 | 0,_=>rfl
 | n+1,i=>by
  simp only [allN,z7a c c' n (i+1)];cases c i <;>cases c' i <;>simp
theorem z6K {τ:Type} [Inhabited τ] (p:τ→Bool) (l:List τ):∀ n i,i+n=l.length→allN (fun k=>p (l.getD k default)) n i=(l.drop i).all p
 | 0,i,h=>by rw [zc2 (by omega)]; rfl
 | n+1,i,h=>by
  rw [zbB (by omega),List.all_cons]
  simp only [allN,z6K p l n (i+1) (by omega)]
theorem zAa {τ:Type} [Inhabited τ] (p:τ→Bool) (l:List τ):allN (fun k=>p (l.getD k default)) l.length 0=l.all p:=by
 rw [z6K p l _ _ (by omega),List.drop_zero]
section
variable {α β ρ:Type}
theorem z6y {W:α→β→Wy α β ρ} {z:ρ} (N:Nat) (ex:Nat→α) (ey:Nat→β) (c:Nat→Bool) (no yes:ρ)
  (h:∀ i,i<N→∀ (H:α→β→Bool×ρ) K D,(W (ex i) (ey i)).ev H K D=bif c i then H (ex (i+1)) (ey (i+1)) else K no)
  (he:∀ (H:α→β→Bool×ρ) K D,(W (ex N) (ey N)).ev H K D=K yes):
  ∀ n i,N<i+n→i≤N→zI W z n (ex i) (ey i)=(true,bif allN c (N - i) i then yes else no)
 | 0,i,h1,h2=>by omega
 | n+1,i,h1,h2=>by
  show (W (ex i) (ey i)).ev (zI W z n) (fun r=>(true,r)) (false,z)=_
  by_cases hi:i<N
  ·rw [h i hi,show N - i=(N - (i+1))+1 by omega]
   simp only [allN];cases c i with
   | false=>rfl
   | true=>rw [cond_true,z6y N ex ey c no yes h he n (i+1) (by omega) (by omega)]; rfl
  ·have:i=N:=by omega
   subst this;rw [he,Nat.sub_self]; rfl
theorem zef {W:α→β→Wy α β ρ} {z:ρ} (N:Nat) (ex:Nat→α) (ey:Nat→β) (c:Nat→Bool) (no yes:ρ)
  (h:∀ i,i<N→∀ (H:α→β→Bool×ρ) K D,(W (ex i) (ey i)).ev H K D=bif c i then H (ex (i+1)) (ey (i+1)) else K no)
  (he:∀ (H:α→β→Bool×ρ) K D,(W (ex N) (ey N)).ev H K D=K yes) (n:Nat) (hn:N<n):zI W z n (ex 0) (ey 0)=(true,bif allN c N 0 then yes else no):=by
 have:=z6y (z:=z) N ex ey c no yes h he n 0 (by omega) (by omega)
 simpa using this
end
def ixf {α:Type} (p:α→Bool):List α→Nat→Int
 | [],_=> -1
 | x::r,i=>bif p x then (i:Int) else ixf p r (i+1)
theorem z9l {α:Type} (p:α→Bool):∀ (l:List α) (i:Nat),decide (ixf p l i≥(0:Int))=l.any p
 | [],i=>by simp [ixf]
 | x::r,i=>by
  rw [List.any_cons];cases h:p x with
  | true=>simp [ixf,h]
  | false=>simpa [ixf,h] using z9l p r (i+1)
section
variable {α γ:Type} [Inhabited α]
def zXj (p:γ→α→Bool×Bool) (s:List α) (g:γ) (t7:Int) (t8:Int):Wy (List α×γ×Int×Int×Unit) (Unit) (Int⊕Unit):=.i (decide (t8<t7)) (.i (decide ((0:Int)≤t8)&&decide (t8<Int.ofNat s.length)) (.bn (p g (s.getD t8.toNat default)) fun r0=>.i (r0) (.k (.inl t8)) (.h (s,g,t7,(IntKind.i64.wrap (t8+(1:Int))),()) ())) .d) (.k (.inr ()))
def zQ9 (p:γ→α→Bool×Bool) (x:List α×γ×Int×Int×Unit) (y:Unit):Wy (List α×γ×Int×Int×Unit) (Unit) (Int⊕Unit):=zXj p x.1 x.2.1 x.2.2.1 x.2.2.2.1
def zbae (p:γ→α→Bool×Bool) (n:Nat) (s:List α) (g:γ) (t7:Int) (t8:Int):Bool×(Int⊕Unit):=zI (zQ9 p) (.inl default) n (s,g,t7,t8,()) ()
def IG (p:γ→α→Bool×Bool) (n:Nat) (g:γ) (s:List α):Bool×Int:=(.bn (zbae p n s g (Int.ofNat s.length) (0:Int)) fun r2=>.i (isL r2) (.k (getL r2)) (.k (-1:Int)):Wy0 Int).fin default
def z94 (p:γ→α→Bool×Bool) (s:List α) (g:γ) (t7:Int) (t8:Int):Wy (List α×γ×Int×Int×Unit) (Unit) (Int⊕Unit):=.i (decide (t8<t7)) (.i (decide ((0:Int)≤t8)&&decide (t8<Int.ofNat s.length)) (.i ((p g (s.getD t8.toNat default)).snd) (.k (.inl t8)) (.h (s,g,t7,(IntKind.i64.wrap (t8+(1:Int))),()) ())) .d) (.k (.inr ()))
def zbgA (p:γ→α→Bool×Bool) (x:List α×γ×Int×Int×Unit) (y:Unit):Wy (List α×γ×Int×Int×Unit) (Unit) (Int⊕Unit):=z94 p x.1 x.2.1 x.2.2.1 x.2.2.2.1
def zbat (p:γ→α→Bool×Bool) (n:Nat) (s:List α) (g:γ) (t7:Int) (t8:Int):Bool×(Int⊕Unit):=zI (zbgA p) (.inl default) n (s,g,t7,t8,()) ()
def IH (p:γ→α→Bool×Bool) (n:Nat) (g:γ) (s:List α):Bool×Int:=(.bn (zbat p n s g (Int.ofNat s.length) (0:Int)) fun r2=>.i (isL r2) (.k (getL r2)) (.k (-1:Int)):Wy0 Int).fin default
theorem z9K (p:γ→α→Bool×Bool) (P:α→Bool) (g:γ) (s:List α) (hs:s.length≤1000000000) (hp:∀ x∈s,p g x=(true,P x)):∀ (n i:Nat),s.length<i+n→i≤s.length→
  ∃ r,zbae p n s g s.length i=(true,r)∧((r=.inl (ixf P (s.drop i) i))∨(r=.inr ()∧ixf P (s.drop i) i= -1))
 | 0,i,h,h2=>by omega
 | n+1,i,h,h2=>by
  show ∃ r,(zXj p s g s.length i).ev (fun x y=>zbae p n x.1 x.2.1 x.2.2.1 x.2.2.2.1) (fun r=>(true,r)) (false,.inl default)=(true,r)∧_
  unfold zXj;by_cases hi:i<s.length
  ·simp only [Wy.ev_i,Wy.ev_k,Wy.ev_h,Wy.ev_bn,Wy.ev_d,tT,hi,hp _ (zt hi)];rw [zbB hi,zR (by omega)]
   simp only [ixf];cases P (s.getD i default) with
   | true=>exact ⟨_,rfl,.inl rfl⟩
   | false=>exact z9K p P g s hs hp n (i+1) (by omega) (by omega)
  ·simp only [Wy.ev_i,Wy.ev_k,Wy.ev_h,Wy.ev_bn,Wy.ev_d,tT,hi,zc2 hi];exact ⟨_,rfl,.inr ⟨rfl,rfl⟩⟩
theorem zJV (p:γ→α→Bool×Bool) (P:α→Bool) (n:Nat) (g:γ) (s:List α) (hs:s.length≤1000000000) (hp:∀ x∈s,p g x=(true,P x)) (hn:s.length<n):IG p n g s=(true,ixf P s 0):=by
 unfold IG;obtain ⟨r,h1,h2⟩:=z9K p P g s hs hp n 0 (by omega) (by omega)
 rw [show ((0:Nat):Int)=(0:Int) from rfl] at h1
 rw [Wy.fin_bn,show Int.ofNat s.length=(s.length:Int) from rfl,h1]
 rw [List.drop_zero] at h2;rcases h2 with rfl | ⟨rfl,h2⟩
 ·rfl
 ·rw [h2]; rfl
theorem z9f (p:γ→α→Bool×Bool) (P:α→Bool) (g:γ) (s:List α) (hs:s.length≤1000000000) (hp:∀ x∈s,p g x=(true,P x)):∀ (n i:Nat),s.length<i+n→i≤s.length→
  ∃ r,zbat p n s g s.length i=(true,r)∧((r=.inl (ixf P (s.drop i) i))∨(r=.inr ()∧ixf P (s.drop i) i= -1))
 | 0,i,h,h2=>by omega
 | n+1,i,h,h2=>by
  show ∃ r,(z94 p s g s.length i).ev (fun x y=>zbat p n x.1 x.2.1 x.2.2.1 x.2.2.2.1) (fun r=>(true,r)) (false,.inl default)=(true,r)∧_
  unfold z94;by_cases hi:i<s.length
  ·simp only [Wy.ev_i,Wy.ev_k,Wy.ev_h,Wy.ev_bn,Wy.ev_d,tT,hi,hp _ (zt hi)];rw [zbB hi,zR (by omega)]
   simp only [ixf];cases P (s.getD i default) with
   | true=>exact ⟨_,rfl,.inl rfl⟩
   | false=>exact z9f p P g s hs hp n (i+1) (by omega) (by omega)
  ·simp only [Wy.ev_i,Wy.ev_k,Wy.ev_h,Wy.ev_bn,Wy.ev_d,tT,hi,zc2 hi];exact ⟨_,rfl,.inr ⟨rfl,rfl⟩⟩
theorem zbdN (p:γ→α→Bool×Bool) (P:α→Bool) (n:Nat) (g:γ) (s:List α) (hs:s.length≤1000000000) (hp:∀ x∈s,p g x=(true,P x)) (hn:s.length<n):IH p n g s=(true,ixf P s 0):=by
 unfold IH;obtain ⟨r,h1,h2⟩:=z9f p P g s hs hp n 0 (by omega) (by omega)
 rw [show ((0:Nat):Int)=(0:Int) from rfl] at h1
 rw [Wy.fin_bn,show Int.ofNat s.length=(s.length:Int) from rfl,h1]
 rw [List.drop_zero] at h2;rcases h2 with rfl | ⟨rfl,h2⟩
 ·rfl
 ·rw [h2]; rfl
theorem zk4 {α:Type} {s:List α} {P:α→Bool} {q:Bool×Int} (h:q=(true,ixf P s 0)):((.bn q fun r0=>.k (decide (r0≥(0:Int))):Wy0 Bool).fin default)=(true,s.any P):=by
 rw [h,Wy.fin_bn,cond_true,Wy.fin_k,z9l]
end
theorem beqd (a b:Int):(a==b)=decide (a=b):=by by_cases h:a=b <;>simp [h]
theorem beqn (a b:Nat):(a==b)=decide (a=b):=by by_cases h:a=b <;>simp [h]
theorem i0 (l:Nat):((l:Int)==0)=(l==0):=by
 rw [beqd,beqn]; congr 1; simp
def hasC (a:yC):Bool:=a.any fun t=>t.Factors.length==0
theorem zPJ (a:yC) (h:a.length≤1000000000):zeY a=(true,hasC a):=by
 unfold zeY zzS zdv zhE;have:zd1 a=IH (fun (_:Unit) x=>zhc x) (a.length+(Int.ofNat a.length).toNat +Int.toNat (0:Int)+(1:Nat)) () a:=rfl
 rw [zk4 (P:=fun t:Term=>t.Factors.length==0) (this.trans (zbdN _ _ _ _ _ h (fun x _=>by
  unfold zhc zwu;rw [Wy.fin_k];congr 1;exact i0 x.Factors.length) (by omega)))]
 rfl
theorem zBt (a:yC) (h:a.length≤1000000000):zir a=(true,hasC a):=by
 unfold zir zMf zJd
 have:=zef (W:=zBg) (z:=.inl default) a.length (fun i=>(a,(i:Int),())) (fun _=>()) (fun i=> !((a.getD i default).Factors.length==0)) (.inl true) (.inr ())
  (fun i hi H K D=>by
   show (zpa a i).ev H K D=_;unfold zpa;simp only [Wy.ev_i,Wy.ev_k,Wy.ev_h,Wy.ev_bn,Wy.ev_d,tT,hi,i0];rw [zR (by omega)]
   cases (a.getD i default).Factors.length==0 <;>rfl)
  (fun H K D=>by
   show (zpa a a.length).ev H K D=_;unfold zpa;simp only [Wy.ev_i,Wy.ev_k,tT,Nat.lt_irrefl]) (a.length+Int.toNat (0:Int)+(1:Nat)) (by omega)
 rw [show ((0:Nat):Int)=(0:Int) from rfl] at this
 rw [Wy.fin_bn,this,zAa (fun t:Term=> !(t.Factors.length==0)) a]
 have e:(a.all fun t:Term=> !(t.Factors.length==0))= !hasC a:=by simp [hasC,List.all_eq_not_any_not]
 rw [e];cases hasC a <;>rfl
def isC:yC→Bool
 | [t]=>t.Factors.length==0
 | _=>false
theorem zTg (a:yC):zhk a=(true,isC a):=by
 unfold zhk zA0
 match a with
 | []=>rfl
 | [t]=>exact congrArg (Prod.mk true) (i0 t.Factors.length)
 | t::u::r=>
  have:((Int.ofNat (t::u::r).length)==(1:Int))=false:=by simp; omega
  rw [Wy.fin_i,this]; rfl
def oneF (p:Factor→Bool):yD→Bool
 | [f]=>p f
 | _=>false
def isU:yC→Bool
 | [t]=>t.Coeff==1&&oneF (fun f=>f.Exp==1&&(f.Atom.Kind==2||f.Atom.Kind==3||f.Atom.Kind==4)) t.Factors
 | _=>false
theorem z3c (x:Atom):zfC x=(true,x.Kind==3||x.Kind==4):=by
 unfold zfC zA6;rw [Wy.fin_i,Wy.fin_k,Wy.fin_k];cases x.Kind==3 <;>rfl
theorem len2 {τ:Type} (x y:τ) (r:List τ):((Int.ofNat (x::y::r).length)==(1:Int))=false:=by
 rw [beq_eq_false_iff_ne]; simp; omega
theorem z4y (a:yC):zlQ a=(true,isU a):=by
 unfold zlQ zEY
 match a with
 | []=>rfl
 | ⟨c,[]⟩::[]=>
  show (bif c != 1 then (true,false) else (true,false))=(true,c==1&&false)
  cases c != 1 <;>simp
 | ⟨c,[f]⟩::[]=>
  simp only [Wy.fin_i,Wy.fin_k,tT,isU,List.length_singleton,z3c,Wy.fin_bn,Wy.fin_d];show (bif c != 1 then (true,false) else bif f.Exp==1 then bif f.Atom.Kind==2 then (true,true) else (true,f.Atom.Kind==3||f.Atom.Kind==4) else (true,false))=(true,c==1&&(f.Exp==1&&(f.Atom.Kind==2||f.Atom.Kind==3||f.Atom.Kind==4)))
  rw [show (c != 1)= !(c==1) from rfl]
  cases c==1 <;>cases f.Exp==1 <;>cases f.Atom.Kind==2 <;>simp
 | ⟨c,f::g::r⟩::[]=>
  simp only [Wy.fin_i,bne,len2];show (bif !(c==1) then (true,false) else (true,false))=(true,c==1&&false)
  cases c==1 <;>rfl
 | t::u::r=>rw [Wy.fin_i,bne,len2]; rfl
def isB:yC→Bool
 | [t]=>t.Coeff==1&&oneF (fun f=>f.Exp==1&&decide (2≤f.Atom.Kind)) t.Factors
 | _=>false
theorem zNc (a:yC):zqA a=(true,isB a):=by
 unfold zqA zQd
 match a with
 | []=>rfl
 | ⟨c,[]⟩::[]=>
  show (bif c==1 then (true,false) else (true,false))=(true,c==1&&false)
  cases c==1 <;>rfl
 | ⟨c,[f]⟩::[]=>
  simp only [Wy.fin_i,Wy.fin_k,tT,List.length_singleton,Wy.fin_bn,Wy.fin_d];show (bif c==1 then bif decide (2≤f.Atom.Kind) then (true,f.Exp==1) else (true,false) else (true,false))=(true,c==1&&(f.Exp==1&&decide (2≤f.Atom.Kind)))
  cases c==1 <;>cases f.Exp==1 <;>cases decide (2≤f.Atom.Kind) <;>simp
 | ⟨c,f::g::r⟩::[]=>
  rw [Wy.fin_i];show (bif true then (Wy.i true (Wy.i (c==1) (Wy.i true (Wy.i (Int.ofNat (f::g::r).length==1) _ (.k false)) .d) (.k false)) .d:Wy0 Bool).fin default else _)=(true,c==1&&false)
  simp only [Wy.fin_i,Wy.fin_k,len2,cond_true,cond_false];cases c==1 <;>rfl
 | t::u::r=>rw [Wy.fin_i,len2]; rfl
theorem zPV (a b:Nat):decide (a>b)= !decide (a≤b):=by
 by_cases h:a≤b
 ·have:¬ a>b:=by omega
  simp [h,this]
 ·have:a>b:=by omega
  simp [h,this]
def withF (t:Term):Bool:= !(decide (t.Factors.length>64)||t.Factors.any fun f=>decide (f.Exp>64)||decide (f.Atom.Items.length>1024))
def zeQ (a:yC):Bool:=decide (a.length≤512)&&decide (zbp a≤8)&&decide (zN a≤4096)&&a.all withF
theorem z97 (l:yD) (h:l.length≤1000000):zcp l=(true,l.any fun f=>decide (f.Exp>64)||decide (f.Atom.Items.length>1024)):=by
 unfold zcp zin
 have hw:zdE=zQ9 (fun (_:Unit) x=>zf3 x):=by
  funext x y
  unfold zdE zjn zQ9 zXj;rw [Factor.eta2]
 have:zcN l=IG (fun (_:Unit) x=>zf3 x) (l.length+(Int.ofNat l.length).toNat +Int.toNat (0:Int)+(1:Nat)) () l:=by
  unfold zcN zjE zjj;rw [hw]; rfl
 exact zk4 (this.trans (zJV _ _ _ _ _ (by omega) (fun x _=>by
  unfold zf3 zyY;rw [Wy.fin_i,Wy.fin_k,Wy.fin_k];have e:decide (Int.ofNat x.Atom.Items.length>(1024:Int))=decide (x.Atom.Items.length>1024):=zoK _ 1024;rw [e];cases decide (x.Exp>64) <;>rfl) (by omega)))
theorem z4G {d:Nat} {a:yC} (h:zr d a) (hd:d≤100) (hs:zN a≤4611686018427387904):zlN a=(true,zeQ a):=by
 obtain ⟨h1,h2⟩:a.length≤1000000∧∀ t∈a,t.Factors.length≤1000000:=by
  cases d with
  | zero=>exact h.elim
  | succ d=>exact ⟨h.1,fun t ht=>(h.2 t ht).1⟩
 have h3:zcj a=(true,a.any fun t=> !withF t):=by
  unfold zcj zh1;have:zd0 a=IG (fun (_:Unit) x=>zli x) (a.length+(Int.ofNat a.length).toNat +Int.toNat (0:Int)+(1:Nat)) () a:=rfl
  exact zk4 (this.trans (zJV _ _ _ _ _ (by omega) (fun x hx=>by
   unfold zli zBS;rw [Wy.fin_i,Wy.fin_k,Wy.fin_bn,z97 _ (h2 x hx)];have e:decide (Int.ofNat x.Factors.length>(64:Int))=decide (x.Factors.length>64):=zoK _ 64;rw [e];unfold withF;cases decide (x.Factors.length>64) <;>simp [Wy.fin_k]) (by omega)))
 unfold zlN zE5;have n1:zzJ a=(true,(zbp a:Int)):=(z2V 1000 d a h (by omega) hd).1
 have n2:zD8 a=(true,(zN a:Int)):=(zZH 1000 d a h (by omega) hs).1
 simp only [Wy.fin_i,Wy.fin_k,Wy.fin_bn,n1,n2,h3,cond_true];have e1:decide (Int.ofNat a.length>(512:Int))= !decide (a.length≤512):=by rw [show decide (Int.ofNat a.length>(512:Int))=decide (a.length>512) from zoK _ 512]; exact zPV _ _
 have e2:decide ((zbp a:Int)>(8:Int))= !decide (zbp a≤8):=by rw [show decide ((zbp a:Int)>(8:Int))=decide (zbp a>8) from zoK _ 8]; exact zPV _ _
 have e3:decide ((zN a:Int)>(4096:Int))= !decide (zN a≤4096):=by rw [show decide ((zN a:Int)>(4096:Int))=decide (zN a>4096) from zoK _ 4096]; exact zPV _ _
 have e4:(a.any fun t=> !withF t)= !a.all withF:=by simp [List.all_eq_not_any_not]
 rw [e1,e2,e3,e4];unfold zeQ;cases decide (a.length≤512) <;>cases decide (zbp a≤8) <;>cases decide (zN a≤4096) <;>simp
theorem zbfr (a:yC) (i:Nat) (hi:i<a.length) (hl:(a.getD i default).Factors.length≤1000000) (fuel:Nat) (hf:(a.getD i default).Factors.length<fuel):
  zSJ fuel a i 0=(true,bif (a.getD i default).Factors.any fun f=>decide (f.Exp>64)||decide (f.Atom.Items.length>1024) then .inl false else .inr (a,(i:Int))):=by
 have:=zef (W:=zIC) (z:=.inl default) (a.getD i default).Factors.length (fun k=>(a,(i:Int),(k:Int),())) (fun _=>()) (fun k=>(fun f:Factor=> !(decide (f.Exp>64)||decide (f.Atom.Items.length>1024))) ((a.getD i default).Factors.getD k default)) (.inl false) (.inr (a,(i:Int)))
  (fun k hk H K D=>by
   show (zx8 a i k).ev H K D=_;unfold zx8;simp only [Wy.ev_i,Wy.ev_k,Wy.ev_h,Wy.ev_bn,Wy.ev_d,tT,hi,hk];rw [zR (by omega),show decide ((((a.getD i default).Factors.getD k default).Atom.Items.length:Int)>(1024:Int))=_ from zoK _ 1024]
   cases decide (((a.getD i default).Factors.getD k default).Exp>64) <;>cases decide (1024<((a.getD i default).Factors.getD k default).Atom.Items.length) <;>rfl)
  (fun H K D=>by
   show (zx8 a i (a.getD i default).Factors.length).ev H K D=_;unfold zx8;simp only [Wy.ev_i,Wy.ev_k,Wy.ev_h,Wy.ev_bn,Wy.ev_d,tT,hi,Nat.lt_irrefl]) fuel hf
 rw [zAa (fun f:Factor=> !(decide (f.Exp>64)||decide (f.Atom.Items.length>1024)))] at this
 have e:((a.getD i default).Factors.all fun f=> !(decide (f.Exp>64)||decide (f.Atom.Items.length>1024)))= !((a.getD i default).Factors.any fun f=>decide (f.Exp>64)||decide (f.Atom.Items.length>1024)):=by simp [List.all_eq_not_any_not]
 rw [e] at this;refine this.trans ?_;cases (a.getD i default).Factors.any fun f=>decide (f.Exp>64)||decide (f.Atom.Items.length>1024) <;>rfl
theorem z9Q {d:Nat} {a:yC} (h:zr d a) (hd:d≤100) (hs:zN a≤4611686018427387904):zAI a=(true,zeQ a):=by
 obtain ⟨h1,h2⟩:a.length≤1000000∧∀ t∈a,t.Factors.length≤1000000:=by
  cases d with
  | zero=>exact h.elim
  | succ d=>exact ⟨h.1,fun t ht=>(h.2 t ht).1⟩
 have h3:zTc ((a.length+Int.toNat (0:Int)+(1:Nat))+szTs a) a 0=(true,bif a.all withF then .inr () else .inl false):=by
  have:=zef (W:=zIK) (z:=.inl default) a.length (fun k=>(a,(k:Int),())) (fun _=>()) (fun k=>withF (a.getD k default)) (.inl false) (.inr ())
   (fun k hk H K D=>by
    show (zxE a k).ev H K D=_;unfold zxE;have h4:=h2 _ (zt hk);have h5:=zLO a k hk;simp only [Wy.ev_i,Wy.ev_k,Wy.ev_h,Wy.ev_bn,Wy.ev_d,tT,hk];rw [zbfr a k hk h4 _ (by omega)]
    have e:decide (((a.getD k default).Factors.length:Int)>(64:Int))=decide ((a.getD k default).Factors.length>64):=zoK _ 64;rw [e];unfold withF;cases decide ((a.getD k default).Factors.length>64) <;>cases ((a.getD k default).Factors.any fun f=>decide (f.Exp>64)||decide (f.Atom.Items.length>1024))
    ·simp only [cond_false,cond_true,isL,getR]; rw [zR (by omega)]; rfl
    all_goals rfl)
   (fun H K D=>by
    show (zxE a a.length).ev H K D=_;unfold zxE;simp only [Wy.ev_i,Wy.ev_k,Wy.ev_h,Wy.ev_bn,Wy.ev_d,tT,Nat.lt_irrefl]) ((a.length+Int.toNat (0:Int)+(1:Nat))+szTs a) (by omega)
  rw [zAa] at this;exact this
 unfold zAI zVS;have n1:zHP a=(true,(zbp a:Int)):=(z2V 1000 d a h (by omega) hd).2
 have n2:zRN a=(true,(zN a:Int)):=(zZH 1000 d a h (by omega) hs).2
 simp only [Wy.fin_i,Wy.fin_k,Wy.fin_bn,n1,n2,h3,cond_true];have e1:decide (Int.ofNat a.length>(512:Int))= !decide (a.length≤512):=by rw [show decide (Int.ofNat a.length>(512:Int))=decide (a.length>512) from zoK _ 512]; exact zPV _ _
 have e2:decide ((zbp a:Int)>(8:Int))= !decide (zbp a≤8):=by rw [show decide ((zbp a:Int)>(8:Int))=decide (zbp a>8) from zoK _ 8]; exact zPV _ _
 have e3:decide ((zN a:Int)>(4096:Int))= !decide (zN a≤4096):=by rw [show decide ((zN a:Int)>(4096:Int))=decide (zN a>4096) from zoK _ 4096]; exact zPV _ _
 rw [e1,e2,e3];unfold zeQ;cases decide (a.length≤512) <;>cases decide (zbp a≤8) <;>cases decide (zN a≤4096) <;>cases a.all withF <;>simp [isL,getL]
def valV (v:Value):Bool:=(v.Kind==0&&v.Text.size==0)||(v.Kind==1&&v.Int==0&&decide (v.Text.size≤255))||(v.Kind==2&&v.Text.size==0&&(v.Int==0||v.Int==1))
theorem z7D (s:ByteArray):(s.toList==(ByteArray.mk #[]).toList)=(s.size==0):=by
 rw [zUH];by_cases h:s.size=0
 ·have:s=ByteArray.mk #[]:=zGX (by
   have:s.data.toList.length=0:=by simpa using h
   rw [List.length_eq_zero_iff.1 this])
  subst this; rfl
 ·have:¬ s=ByteArray.mk #[]:=fun e=>h (by rw [e]; rfl)
  simp [h,this]
theorem zGl (v:Value):zun v=(true,valV v):=by
 unfold zun zS6 valV;simp only [z7D,Wy.fin_i,Wy.fin_k,beqd,beqn];have e:decide (Int.ofNat v.Text.size≤(255:Int))=decide (v.Text.size≤255):=zBM _ 255;rw [e];by_cases h0:v.Kind=0
 ·simp [h0]
 ·by_cases h1:v.Kind=1
  ·by_cases h2:v.Int=0 <;>simp [h1,h2]
  ·by_cases h2:v.Kind=2
   ·by_cases h3:v.Int=0
    ·simp [h2,h3]
    ·by_cases h4:v.Int=1 <;>simp [h2,h3,h4]
   ·simp [h0,h1,h2]
theorem zPR (v:Value):zyl v=(true,valV v):=by
 unfold zyl zS2 valV;simp only [z7D,Wy.fin_i,Wy.fin_k,beqd,beqn];have e:decide (Int.ofNat v.Text.size≤(255:Int))=decide (v.Text.size≤255):=zBM _ 255;rw [e];by_cases h0:v.Kind=0
 ·simp [h0]
 ·by_cases h1:v.Kind=1
  ·by_cases h2:v.Int=0 <;>simp [h1,h2]
  ·by_cases h2:v.Kind=2
   ·by_cases h3:v.Int=0
    ·by_cases h4:v.Text.size=0 <;>simp [h2,h3,h4]
    ·by_cases h4:v.Text.size=0 <;>simp [h2,h3,h4]
   ·simp [h0,h1,h2]
def fitI (fn:Int) (b:Value) (w:Weighted):Bool:=valV w.Value&&(w.Value.Kind==b.Kind)&& !(fn==0&&w.Value.Int != 1)
def fitK (fn:Int) (l:yE) (op:Int) (b:Value):Bool:=decide (0≤fn)&&decide (fn≤3)&&decide (5≤op)&&decide (op≤10)&&valV b&& !(decide (fn≤1)&&b.Kind != 0)&&l.all (fitI fn b)
theorem zbdo (l:yE) (fn:Int) (b:Value) (h:l.length≤1000000):zbz l b fn=(true, !l.all (fitI fn b)):=by
 unfold zbz zgL;have:zds l b fn=IG (fun (g:Value×(Int×Unit)×Unit) x=>zhh x g.1 g.2.1.1) (l.length+fn.toNat +(Int.ofNat l.length).toNat +Int.toNat (0:Int)+(1:Nat)) (b,(fn,()),()) l:=rfl
 have e:(!l.all (fitI fn b))=l.any fun w=> !fitI fn b w:=by simp [List.all_eq_not_any_not]
 rw [e]
 exact zk4 (this.trans (zJV _ _ _ _ _ (by omega) (fun x _=>by
  show zhh x b fn=_;unfold zhh zAU fitI;simp only [Wy.fin_i,Wy.fin_k,Wy.fin_bn,zGl,cond_true,beqd,bne0];cases valV x.Value <;>by_cases h1:x.Value.Kind=b.Kind <;>by_cases h2:fn=0 <;>simp [beqd,bne0,h1,h2]) (by omega)))
theorem z2J (fn:Int) (l:yE) (op:Int) (b:Value) (h:l.length≤1000000):zko fn l op b=(true,fitK fn l op b):=by
 unfold zko zDI fitK;simp only [Wy.fin_i,Wy.fin_k,Wy.fin_bn,zGl,zbdo l fn b h,cond_true,beqd,bne0];by_cases h1:fn<0
 ·have:¬ (0≤fn):=by omega
  simp [h1,this]
 by_cases h2:3<fn
 ·have:¬ (fn≤3):=by omega
  simp [h1,h2,this]
 by_cases h3:op<5
 ·have:¬ (5≤op):=by omega
  simp [h1,h2,h3,this]
 by_cases h4:10<op
 ·have:¬ (op≤10):=by omega
  simp [h1,h2,h3,h4,this]
 have g1:0≤fn:=by omega
 have g2:fn≤3:=by omega
 have g3:5≤op:=by omega
 have g4:op≤10:=by omega
 cases valV b with
 | false=>simp [h1,h2,h3,h4]
 | true=>
  by_cases h5:fn=0
  ·subst h5; by_cases h6:b.Kind=0 <;>simp [h3,h4,h6,g3,g4]
  ·by_cases h7:fn=1
   ·subst h7; by_cases h6:b.Kind=0 <;>simp [h3,h4,h6,g3,g4]
   ·have:¬ fn≤1:=by omega
    simp [h1,h2,h3,h4,h5,h7,this,g1,g2,g3,g4]
theorem z8r (fn:Int) (l:yE) (op:Int) (b:Value) (h:l.length≤1000000):zyn fn l op b=(true,fitK fn l op b):=by
 unfold zyn zTf fitK
 have hl:zFv (fn.toNat +l.length+Int.toNat (0:Int)+(1:Nat)) fn l (0:Int) b=(true,bif l.all (fitI fn b) then .inr () else .inl false):=by
  have:=zef (W:=zFW) (z:=.inl default) l.length (fun k=>(fn,l,(),(k:Int),())) (fun _=>(b,())) (fun k=>fitI fn b (l.getD k default)) (.inl false) (.inr ())
   (fun k hk H K D=>by
    show (zva fn l k b).ev H K D=_;unfold zva fitI;simp only [Wy.ev_i,Wy.ev_k,Wy.ev_h,Wy.ev_bn,Wy.ev_d,tT,hk,zPR,beqd,bne0];rw [zR (by omega)]
    cases valV (l.getD k default).Value <;>cases decide ((l.getD k default).Value.Kind=b.Kind) <;>cases decide (fn=0) <;>cases decide ((l.getD k default).Value.Int=1) <;>rfl)
   (fun H K D=>by
    show (zva fn l l.length b).ev H K D=_;unfold zva;simp only [Wy.ev_i,Wy.ev_k,Wy.ev_h,Wy.ev_bn,Wy.ev_d,tT,Nat.lt_irrefl]) (fn.toNat +l.length+Int.toNat (0:Int)+(1:Nat)) (by omega)
  rw [zAa] at this;exact this
 simp only [Wy.fin_i,Wy.fin_k,Wy.fin_bn,zPR,hl,cond_true,beqd,bne0];by_cases h1:fn<0
 ·have:¬ (0≤fn):=by omega
  simp [h1,this]
 by_cases h2:3<fn
 ·have:¬ (fn≤3):=by omega
  simp [h1,h2,this]
 by_cases h3:op<5
 ·have:¬ (5≤op):=by omega
  simp [h1,h2,h3,this]
 by_cases h4:10<op
 ·have:¬ (op≤10):=by omega
  simp [h1,h2,h3,h4,this]
 have g1:0≤fn:=by omega
 have g2:fn≤3:=by omega
 have g3:5≤op:=by omega
 have g4:op≤10:=by omega
 cases valV b with
 | false=>simp [h1,h2,h3,h4]
 | true=>
  by_cases h5:fn≤1
  ·by_cases h6:b.Kind=0
   ·cases l.all (fitI fn b) <;>simp [h1,h2,h3,h4,h5,h6,g1,g2,g3,g4,isL,getL]
   ·simp [h1,h2,h3,h4,h5,h6,g1,g2,g3,g4]
  ·cases l.all (fitI fn b) <;>simp [h1,h2,h3,h4,h5,g1,g2,g3,g4,isL,getL]
def bz (b:Value):Bool:=b.Kind==(0:Int)&&(b.Int==(0:Int)&&(b.Text.toList==(ByteArray.mk #[]).toList&&true))
def plA (x:Atom):Bool:=x.Func==0&&(x.Items.length==0)&&x.Op==0&&bz x.Bound
theorem zbck (x:Atom):zpV x=(true,plA x):=by
 unfold zpV zTb plA;simp only [Wy.fin_i,Wy.fin_k,Int.ofNat_eq_natCast,i0];show _=(true,_&&_&&_&&bz x.Bound);rw [show (x.Bound.Kind==(0:Int)&&(x.Bound.Int==(0:Int)&&(x.Bound.Text.toList==(ByteArray.mk #[]).toList&&true)))=bz x.Bound from rfl]
 cases x.Func==0 <;>cases x.Items.length==0 <;>cases x.Op==0 <;>rfl
def srtI (l:yE) (k:Nat):Bool:=decide (k=0)||decide (cmpT (zbc (l.getD (k - 1) default)) (zbc (l.getD k default))≤0)
def srtW (l:yE):Bool:=allN (srtI l) l.length 0
theorem z4L (c:Nat→Bool):∀ n i,allN c (n+1) i=(allN c n i&&c (i+n))
 | 0,i=>by simp [allN]
 | n+1,i=>by
  rw [allN,z4L c n (i+1),allN,show i+1+n=i+(n+1) by omega,Bool.and_assoc]
theorem zS5 {d:Nat} (l:yE) (hl:l.length≤1000000) (h:∀ w∈l,zr d w.Ann) (hd:d≤99):∀ (n i:Nat),i<l.length→i<n→zev n l i=(true,bif allN (srtI l) (i+1) 0 then .inr () else .inl false)
 | 0,i,hi,hn=>by omega
 | n+1,i,hi,hn=>by
  show (zex l i).ev (fun x y=>zev n x.1 x.2.2.1) (fun r=>(true,r)) (false,.inl default)=_
  unfold zex;have hg:decide ((i:Int)>(0:Int))=decide (0<i):=zoK i 0;cases i with
  | zero=>simp [Wy.ev_i,Wy.ev_k,allN,srtI]
  | succ i=>
   have hi':i<l.length:=by omega
   have hw:IntKind.i64.wrap (((i+1:Nat):Int) - 1)=(i:Int):=by rw [zzD (by omega) (by omega)]; rfl
   have hp:decide (0<i+1)=true:=by simp
   simp only [Wy.ev_i,Wy.ev_k,Wy.ev_h,Wy.ev_bn,Wy.ev_d,hg,hp,hw,tT,hi,hi',zjW (h _ (zt hi)) hd];rw [zS5 l hl h hd n i hi' (by omega),z4L _ (i+1),Nat.zero_add]
   have:srtI l (i+1)= !decide (cmpT (zbc (l.getD (i+1) default)) (zbc (l.getD i default))<0):=by
    unfold srtI;rw [show i+1 - 1=i from rfl,zgH (zbc (l.getD (i+1) default)) (zbc (l.getD i default))]
    generalize cmpT (zbc (l.getD (i+1) default)) (zbc (l.getD i default))=z;by_cases hz:z<0
    ·have:¬ (-z≤0):=by omega
     simp [hz,this]
    ·have:(-z≤0):=by omega
     simp [hz,this]
   rw [this];cases decide (cmpT (zbc (l.getD (i+1) default)) (zbc (l.getD i default))<0) <;>simp
theorem z8K {d:Nat} (l:yE) (hl:l.length≤1000000) (h:∀ w∈l,zr d w.Ann) (hd:d≤99):zck l=(true,srtW l):=by
 unfold zck zhS srtW
 match l,hl,h with
 | [],_,_=>rfl
 | x::r,hl,h=>
  have hw:IntKind.i64.wrap (Int.ofNat (x::r).length - 1)=(r.length:Int):=by
   rw [qf] at hl;rw [show Int.ofNat (x::r).length=(((x::r).length:Nat):Int) from rfl,zzD (by simp) (by simp; omega)]; rfl
  rw [Wy.fin_bn,hw,zS5 (x::r) hl h hd _ r.length (by simp) (by simp; omega)]
  cases allN (srtI (x::r)) (r.length+1) 0 with
  | true=>simp [Wy.fin_i,Wy.fin_k,isL]
  | false=>simp [Wy.fin_i,Wy.fin_k,isL,getL]
end Go.Proofs.YtljlfiomikifjaaGreatDoor
end
