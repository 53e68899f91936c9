/- Texts of this claim, joined (the program, its functions in plain words, and what they compute). -/
import Derived.Test.YtnolcogncjijpaaGreatDoorGC4
import Derived.Test.YtnolcogncjijpaaGreatDoorGC1
import Derived.Test.YtnolcogncjijpaaGreatDoorGA2
import Derived.Test.YtnolcogncjijpaaGreatDoorGC2
import Derived.Test.YtnolcogncjijpaaGreatDoorGB1
set_option autoImplicit false
set_option linter.unusedVariables false
set_option linter.unusedSectionVars false
set_option linter.unusedSimpArgs false
set_option maxRecDepth 1000000
set_option maxHeartbeats 0
/- What the laws examine: annotations of small weight. -/
noncomputable section
namespace Go.Proofs.YtnolcogncjijpaaGreatDoor
open Go Go.Ab
theorem zpN:∀ {l:List Factor},znA l→∀ x∈l,zpo x
 | [],_,x,hx=>by cases hx
 | y::r,h,x,hx=>by
  unfold znA at h
  rcases List.mem_cons.1 hx with rfl | hx
  ·exact h.1
  ·exact zpN h.2 x hx
theorem zuC:∀ {l:List Term},zid l→∀ x∈l,zs6 x
 | [],_,x,hx=>by cases hx
 | y::r,h,x,hx=>by
  unfold zid at h
  rcases List.mem_cons.1 hx with rfl | hx
  ·exact h.1
  ·exact zuC h.2 x hx
theorem zl7:∀ {l:List (List Term)},zvh l→∀ x∈l,zid x∧x.length≤roomLen
 | [],_,x,hx=>by cases hx
 | y::r,h,x,hx=>by
  unfold zvh at h
  rcases List.mem_cons.1 hx with rfl | hx
  ·exact h.1
  ·exact zl7 h.2 x hx
theorem zqb:∀ {l:List Weighted},zqa l→∀ x∈l,wf46 x.Value∧zid x.Ann∧x.Ann.length≤roomLen
 | [],_,x,hx=>by cases hx
 | y::r,h,x,hx=>by
  unfold zqa at h
  rcases List.mem_cons.1 hx with rfl | hx
  ·have:=h.1; unfold zCv at this; exact ⟨this.1,this.2.1,this.2.2⟩
  ·exact zqb h.2 x hx
theorem zvA {t:Term} (h:zs6 t):wf2 t.Coeff∧znA t.Factors∧t.Factors.length≤roomLen:=by
 unfold zs6 at h; exact ⟨h.1,h.2.1,h.2.2⟩
theorem zrd {t:Factor} (h:zpo t):zjY t.Atom∧wf3 t.Exp:=by
 unfold zpo at h; exact h
theorem zvk {x:Atom} (h:zjY x):(zvh x.Args∧x.Args.length≤roomLen)∧(zqa x.Items∧x.Items.length≤roomLen)∧wf46 x.Bound∧wf3 x.Kind∧wf25 x.Row∧wf3 x.Func∧wf3 x.Op:=by
 obtain ⟨k,r,a,f,i,o,b⟩:=x; unfold zjY at h; exact ⟨h.2.2.1,h.2.2.2.2.1,h.2.2.2.2.2.2,h.1,h.2.1,h.2.2.2.1,h.2.2.2.2.2.1⟩
theorem ziC {z:Int} (h0: -4611686018427387904≤z) (h:z<4611686018427387904):IntKind.i64.wrap z=z:=zF5 (by omega) (by omega)
mutual
def zzO:Atom→Nat
 | ⟨_,_,a,_,i,_,b⟩=>i.length+a.length+b.Text.size+zns a+zlb i
def zia:List Factor→Nat
 | []=>0
 | ⟨x,_⟩::r=>zzO x+zia r
def zf1:List Term→Nat
 | []=>0
 | ⟨_,fs⟩::r=>1+fs.length+zia fs+zf1 r
def zns:List (List Term)→Nat
 | []=>0
 | a::r=>zf1 a+zns r
def zlb:List Weighted→Nat
 | []=>0
 | ⟨v,a⟩::r=>v.Text.size+zf1 a+zlb r
end
theorem zNq (x:Atom):zzO x=x.Items.length+x.Args.length+x.Bound.Text.size+zns x.Args+zlb x.Items:=by cases x; rw [zzO]
theorem zHp (f:Factor) (r:List Factor):zia (f::r)=zzO f.Atom+zia r:=by cases f; rw [zia]
theorem zLA (t:Term) (r:List Term):zf1 (t::r)=1+t.Factors.length+zia t.Factors+zf1 r:=by cases t; rw [zf1]
theorem zJ4 (a:List Term) (r:List (List Term)):zns (a::r)=zf1 a+zns r:=by rw [zns]
theorem zJO (w:Weighted) (r:List Weighted):zlb (w::r)=w.Value.Text.size+zf1 w.Ann+zlb r:=by cases w; rw [zlb]
theorem zLn:zns []=0:=by rw [zns]
theorem zK3:zlb []=0:=by rw [zlb]
theorem zIt:zia []=0:=by rw [zia]
theorem zMJ:zf1 []=0:=by rw [zf1]
section
variable (g:List Term→Int→Int→Bool×Int) (a:List Term) (limit d:Nat) (hl:limit≤1000) (hd:d≤100) (B:Nat) (hB:B≤1152921504606846976) (P:List Term→Prop)
include hl hd hB
theorem w14 (x:Atom) (i k:Int) (hlen:x.Args.length≤roomLen) (hg:∀ y∈x.Args,∀ l:Nat,l≤1000→∃ w:Nat,g y l d=(true,(w:Int))∧w≤B∧(w≤l→P y∧zf1 y≤w)):
  ∀ (fuel j n:Nat),x.Args.length<j+fuel→j≤x.Args.length→n≤2305843009213693952→∃ n':Nat,zra g fuel a limit (d+1:Nat) n i k j x=(true,(a,(limit:Int),((d+1:Nat):Int),(n':Int),i,k,x))∧n≤n'∧n'≤max n (limit+B)∧(n'≤limit→(∀ y∈x.Args.drop j,P y)∧n+zns (x.Args.drop j)≤n')
 | 0,j,n,h1,h2,h3=>by omega
 | fuel+1,j,n,h1,h2,h3=>by
  show ∃ n':Nat,(zrm g a limit (d+1:Nat) n i k j x).ev (fun x y=>zra g fuel x.1 x.2.1 x.2.2.1 x.2.2.2.1 x.2.2.2.2.1 x.2.2.2.2.2.1 x.2.2.2.2.2.2.2.1 y.1) (fun r=>(true,r)) (false,default)=_∧_
  unfold zrm
  have hml:roomLen=140737488351232:=rfl
  by_cases hj:j<x.Args.length
  ·by_cases hn:n≤limit
   ·have e1:IntKind.i64.wrap ((limit:Int) - (n:Int))=((limit - n:Nat):Int):=by rw [ziC (by omega) (by omega)]; omega
    obtain ⟨w,hw,hwB,hwP⟩:=hg _ (zH hj) (limit - n) (by omega)
    have ed:IntKind.i64.wrap (((d+1:Nat):Int) - 1)=(d:Int):=by rw [ziC (by omega) (by omega)]; omega
    simp only [Wy.ev_i,Wy.ev_k,Wy.ev_h,Wy.ev_bn,Wy.ev_d,tT,hj,ztq,hn,e1,ed,hw]
    have e3:IntKind.i64.wrap ((n:Int)+(w:Int))=((n+w:Nat):Int):=by rw [ziC (by omega) (by omega)]; omega
    rw [e3,zbb (by omega)]
    obtain ⟨n',h4,h5,h6,h7⟩:=w14 x i k hlen hg fuel (j+1) (n+w) (by omega) (by omega) (by omega)
    refine ⟨n',h4,by omega,by omega,fun hn'=> ?_⟩
    obtain ⟨h8,h9⟩:=h7 hn'
    obtain ⟨p1,p2⟩:=hwP (by omega)
    rw [zbF hj,zJ4]
    refine ⟨fun y hy=> ?_,by omega⟩
    rcases List.mem_cons.1 hy with rfl | hy
    ·exact p1
    ·exact h8 y hy
   ·simp only [Wy.ev_i,Wy.ev_k,Wy.ev_h,Wy.ev_bn,Wy.ev_d,tT,hj,ztq,hn]
    exact ⟨n,rfl,Nat.le_refl _,by omega,fun h=>absurd h hn⟩
  ·simp only [Wy.ev_i,Wy.ev_k,Wy.ev_h,Wy.ev_bn,Wy.ev_d,tT,hj]
   exact ⟨n,rfl,Nat.le_refl _,by omega,fun _=>by rw [zeR hj,zLn]; exact ⟨fun y hy=>(by cases hy),Nat.le_refl _⟩⟩
theorem w18 (x:Atom) (i k:Int) (hlen:x.Items.length≤roomLen) (hg:∀ y∈x.Items,y.Value.Text.size≤roomLen∧∀ l:Nat,l≤1000→∃ w:Nat,g y.Ann l d=(true,(w:Int))∧w≤B∧(w≤l→P y.Ann∧zf1 y.Ann≤w)):
  ∀ (fuel j n:Nat),x.Items.length<j+fuel→j≤x.Items.length→n≤2305843009213693952→∃ n':Nat,zry g fuel a limit (d+1:Nat) n i k j x=(true,(a,(limit:Int),((d+1:Nat):Int),(n':Int),i,k))∧n≤n'∧n'≤max n (limit+roomLen+B)∧(n'≤limit→(∀ y∈x.Items.drop j,y.Value.Text.size≤1000∧P y.Ann)∧n+zlb (x.Items.drop j)≤n')
 | 0,j,n,h1,h2,h3=>by omega
 | fuel+1,j,n,h1,h2,h3=>by
  show ∃ n':Nat,(zrN g a limit (d+1:Nat) n i k j x).ev (fun x y=>zry g fuel x.1 x.2.1 x.2.2.1 x.2.2.2.1 x.2.2.2.2.1 x.2.2.2.2.2.1 x.2.2.2.2.2.2.2.1 y.1) (fun r=>(true,r)) (false,default)=_∧_
  unfold zrN
  have hml:roomLen=140737488351232:=rfl
  by_cases hj:j<x.Items.length
  ·by_cases hn:n≤limit
   ·have e1:IntKind.i64.wrap ((limit:Int) - (n:Int))=((limit - n:Nat):Int):=by rw [ziC (by omega) (by omega)]; omega
    obtain ⟨ht,hgy⟩:=hg _ (zH hj)
    obtain ⟨w,hw,hwB,hwP⟩:=hgy (limit - n) (by omega)
    have ed:IntKind.i64.wrap (((d+1:Nat):Int) - 1)=(d:Int):=by rw [ziC (by omega) (by omega)]; omega
    simp only [Wy.ev_i,Wy.ev_k,Wy.ev_h,Wy.ev_bn,Wy.ev_d,tT,hj,ztq,hn,e1,ed,hw]
    generalize hsz:(x.Items.getD j default).Value.Text.size=sz at *
    have e3:IntKind.i64.wrap (IntKind.i64.wrap ((n:Int)+(sz:Int))+(w:Int))=((n+sz+w:Nat):Int):=by rw [ziC (z:=(n:Int)+(sz:Int)) (by omega) (by omega),ziC (by omega) (by omega)]; omega
    rw [e3,zbb (by omega)]
    obtain ⟨n',h4,h5,h6,h7⟩:=w18 x i k hlen hg fuel (j+1) (n+sz+w) (by omega) (by omega) (by omega)
    refine ⟨n',h4,by omega,by omega,fun hn'=> ?_⟩
    obtain ⟨h8,h9⟩:=h7 hn'
    obtain ⟨p1,p2⟩:=hwP (by omega)
    rw [zbF hj,zJO]
    refine ⟨fun y hy=> ?_,by omega⟩
    rcases List.mem_cons.1 hy with rfl | hy
    ·exact ⟨by omega,p1⟩
    ·exact h8 y hy
   ·simp only [Wy.ev_i,Wy.ev_k,Wy.ev_h,Wy.ev_bn,Wy.ev_d,tT,hj,ztq,hn]
    exact ⟨n,rfl,Nat.le_refl _,by omega,fun h=>absurd h hn⟩
  ·simp only [Wy.ev_i,Wy.ev_k,Wy.ev_h,Wy.ev_bn,Wy.ev_d,tT,hj]
   exact ⟨n,rfl,Nat.le_refl _,by omega,fun _=>by rw [zeR hj,zK3]; exact ⟨fun y hy=>(by cases hy),Nat.le_refl _⟩⟩
theorem w9 (i:Nat) (hi:i<a.length) (hla:(a.getD i default).Factors.length≤roomLen) (hg:∀ f∈(a.getD i default).Factors,f.Atom.Args.length≤roomLen∧f.Atom.Items.length≤roomLen∧f.Atom.Bound.Text.size≤roomLen∧(∀ y∈f.Atom.Args,∀ l:Nat,l≤1000→∃ w:Nat,g y l d=(true,(w:Int))∧w≤B∧(w≤l→P y∧zf1 y≤w))∧
   ∀ y∈f.Atom.Items,y.Value.Text.size≤roomLen∧∀ l:Nat,l≤1000→∃ w:Nat,g y.Ann l d=(true,(w:Int))∧w≤B∧(w≤l→P y.Ann∧zf1 y.Ann≤w)):
  ∀ (fuel k n:Nat),(a.getD i default).Factors.length<k+fuel→k≤(a.getD i default).Factors.length→n≤2305843009213693952→∃ n':Nat,zsN g fuel a limit (d+1:Nat) n i k=(true,(a,(limit:Int),((d+1:Nat):Int),(n':Int),(i:Int)))∧n≤n'∧n'≤max n (limit+4*roomLen+B)∧
   (n'≤limit→(∀ f∈(a.getD i default).Factors.drop k,(f.Atom.Args.length≤1000∧f.Atom.Items.length≤1000∧f.Atom.Bound.Text.size≤1000)∧(∀ y∈f.Atom.Args,P y)∧∀ y∈f.Atom.Items,y.Value.Text.size≤1000∧P y.Ann)∧n+zia ((a.getD i default).Factors.drop k)≤n')
 | 0,k,n,h1,h2,h3=>by omega
 | fuel+1,k,n,h1,h2,h3=>by
  show ∃ n':Nat,(zsS g a limit (d+1:Nat) n i k).ev (fun x y=>zsN g fuel x.1 x.2.1 x.2.2.1 x.2.2.2.1 x.2.2.2.2.1 x.2.2.2.2.2.1) (fun r=>(true,r)) (false,default)=_∧_
  unfold zsS
  have hml:roomLen=140737488351232:=rfl
  by_cases hk:k<(a.getD i default).Factors.length
  ·by_cases hn:n≤limit
   ·simp only [Wy.ev_i,Wy.ev_k,Wy.ev_h,Wy.ev_bn,Wy.ev_d,tT,hi,hk,ztq,hn,Atom.eta]
    obtain ⟨ha1,ha2,ha3,hgA,hgI⟩:=hg _ (zH hk)
    generalize hf:((a.getD i default).Factors.getD k default)=f at *
    have e0:IntKind.i64.wrap (IntKind.i64.wrap (IntKind.i64.wrap ((n:Int)+(f.Atom.Items.length:Int))+(f.Atom.Args.length:Int))+(f.Atom.Bound.Text.size:Int))=((n+f.Atom.Items.length+f.Atom.Args.length+f.Atom.Bound.Text.size:Nat):Int):=by
     rw [ziC (z:=(n:Int)+(f.Atom.Items.length:Int)) (by omega) (by omega),ziC (z:=(n:Int)+(f.Atom.Items.length:Int)+(f.Atom.Args.length:Int)) (by omega) (by omega),ziC (by omega) (by omega)]; omega
    rw [e0]
    obtain ⟨n1,q1,q2,q3,q4⟩:=w14 g a limit d hl hd B hB P f.Atom i k ha1 hgA (a.length+limit+(d+1)+((n+f.Atom.Items.length+f.Atom.Args.length+f.Atom.Bound.Text.size:Nat):Int).toNat +i+k+Int.toNat 0+1+f.Atom.Args.length+f.Atom.Items.length) 0 (n+f.Atom.Items.length+f.Atom.Args.length+f.Atom.Bound.Text.size) (by omega) (by omega) (by omega)
    rw [show ((0:Nat):Int)=(0:Int) from rfl] at q1
    rw [q1]
    simp only [cond_true,Atom.eta,Int.toNat_natCast]
    obtain ⟨n2,r1,r2,r3,r4⟩:=w18 g a limit d hl hd B hB P f.Atom i k ha2 hgI (a.length+limit+(d+1)+n1+i+k+Int.toNat 0+1+f.Atom.Args.length+f.Atom.Items.length) 0 n1 (by omega) (by omega) (by omega)
    rw [show ((0:Nat):Int)=(0:Int) from rfl] at r1
    rw [r1]
    simp only [cond_true]
    rw [zbb (by omega)]
    obtain ⟨n',h4,h5,h6,h7⟩:=w9 i hi hla hg fuel (k+1) n2 (by omega) (by omega) (by omega)
    refine ⟨n',h4,by omega,by omega,fun hn'=> ?_⟩
    obtain ⟨h8,h9⟩:=h7 hn'
    obtain ⟨q5,q6⟩:=q4 (by omega)
    obtain ⟨r5,r6⟩:=r4 (by omega)
    rw [List.drop_zero] at q5 q6 r5 r6
    rw [zbF hk,zHp,hf,zNq]
    refine ⟨fun y hy=> ?_,by omega⟩
    rcases List.mem_cons.1 hy with rfl | hy
    ·exact ⟨⟨by omega,by omega,by omega⟩,q5,r5⟩
    ·exact h8 y hy
   ·simp only [Wy.ev_i,Wy.ev_k,Wy.ev_h,Wy.ev_bn,Wy.ev_d,tT,hi,hk,ztq,hn]
    exact ⟨n,rfl,Nat.le_refl _,by omega,fun h=>absurd h hn⟩
  ·simp only [Wy.ev_i,Wy.ev_k,Wy.ev_h,Wy.ev_bn,Wy.ev_d,tT,hi,hk]
   exact ⟨n,rfl,Nat.le_refl _,by omega,fun _=>by rw [zeR hk,zIt]; exact ⟨fun y hy=>(by cases hy),Nat.le_refl _⟩⟩
theorem w5 (hla:∀ t∈a,t.Factors.length≤roomLen) (hg:∀ t∈a,∀ f∈t.Factors,f.Atom.Args.length≤roomLen∧f.Atom.Items.length≤roomLen∧f.Atom.Bound.Text.size≤roomLen∧(∀ y∈f.Atom.Args,∀ l:Nat,l≤1000→∃ w:Nat,g y l d=(true,(w:Int))∧w≤B∧(w≤l→P y∧zf1 y≤w))∧
   ∀ y∈f.Atom.Items,y.Value.Text.size≤roomLen∧∀ l:Nat,l≤1000→∃ w:Nat,g y.Ann l d=(true,(w:Int))∧w≤B∧(w≤l→P y.Ann∧zf1 y.Ann≤w)) (hlen:a.length≤roomLen):
  ∀ (fuel i n:Nat),a.length<i+fuel→i≤a.length→n≤2305843009213693952→∃ n':Nat,zsO g fuel a limit (d+1:Nat) n i=(true,(n':Int))∧n≤n'∧n'≤max n (limit+6*roomLen+B)∧
   (n'≤limit→(n+(a.length - i)≤n'∧n+zf1 (a.drop i)≤n')∧∀ t∈a.drop i,t.Factors.length≤1000∧∀ f∈t.Factors,(f.Atom.Args.length≤1000∧f.Atom.Items.length≤1000∧f.Atom.Bound.Text.size≤1000)∧(∀ y∈f.Atom.Args,P y)∧∀ y∈f.Atom.Items,y.Value.Text.size≤1000∧P y.Ann)
 | 0,i,n,h1,h2,h3=>by omega
 | fuel+1,i,n,h1,h2,h3=>by
  show ∃ n':Nat,(zsM g a limit (d+1:Nat) n i).ev (fun x y=>zsO g fuel x.1 x.2.1 x.2.2.1 x.2.2.2.1 x.2.2.2.2.1) (fun r=>(true,r)) (false,default)=_∧_
  unfold zsM
  have hml:roomLen=140737488351232:=rfl
  by_cases hi:i<a.length
  ·by_cases hn:n≤limit
   ·simp only [Wy.ev_i,Wy.ev_k,Wy.ev_h,Wy.ev_bn,Wy.ev_d,tT,hi,ztq,hn]
    have hla':=hla _ (zH hi)
    have e0:IntKind.i64.wrap (IntKind.i64.wrap ((n:Int)+1)+((a.getD i default).Factors.length:Int))=((n+1+(a.getD i default).Factors.length:Nat):Int):=by
     rw [zbb (by omega),ziC (by omega) (by omega)]; omega
    rw [e0]
    obtain ⟨n1,q1,q2,q3,q4⟩:=w9 g a limit d hl hd B hB P i hi hla' (hg _ (zH hi)) (a.length+limit+(d+1)+((n+1+(a.getD i default).Factors.length:Nat):Int).toNat +i+Int.toNat 0+1) 0 (n+1+(a.getD i default).Factors.length) (by omega) (by omega) (by omega)
    rw [show ((0:Nat):Int)=(0:Int) from rfl] at q1
    rw [q1]
    simp only [cond_true]
    rw [zbb (by omega)]
    obtain ⟨n',h4,h5,h6,h7⟩:=w5 hla hg hlen fuel (i+1) n1 (by omega) (by omega) (by omega)
    refine ⟨n',h4,by omega,by omega,fun hn'=> ?_⟩
    obtain ⟨⟨h8,h10⟩,h9⟩:=h7 hn'
    obtain ⟨q5,q6⟩:=q4 (by omega)
    rw [List.drop_zero] at q5 q6
    rw [zbF hi,zLA]
    refine ⟨⟨by omega,by omega⟩,fun y hy=> ?_⟩
    rcases List.mem_cons.1 hy with rfl | hy
    ·exact ⟨by omega,q5⟩
    ·exact h9 y hy
   ·simp only [Wy.ev_i,Wy.ev_k,Wy.ev_h,Wy.ev_bn,Wy.ev_d,tT,hi,ztq,hn]
    exact ⟨n,rfl,Nat.le_refl _,by omega,fun h=>absurd h hn⟩
  ·simp only [Wy.ev_i,Wy.ev_k,Wy.ev_h,Wy.ev_bn,Wy.ev_d,tT,hi]
   exact ⟨n,rfl,Nat.le_refl _,by omega,fun _=>by rw [zeR hi,zMJ]; exact ⟨⟨by omega,Nat.le_refl _⟩,fun y hy=>(by cases hy)⟩⟩
end
theorem zI8:∀ (d N:Nat),d<N→d≤12→∀ (l:Nat),l≤1000→∀ a,zid a→a.length≤roomLen→∃ w:Nat,zmw N a l d=(true,(w:Int))∧w≤(d+1)*4503599627370496∧(w≤l→zy d a∧zf1 a≤w)
 | _,0,h,_,_,_,_,_,_=>by omega
 | 0,N+1,_,_,l,hl,a,hw,hlen=>by
  rw [zyY]
  unfold zoy zpn
  refine ⟨l+1, ?_,by omega,fun h=>by omega⟩
  simp only [Wy.fin_i,Wy.fin_k]
  rw [zbb (by omega)]; rfl
 | d+1,N+1,hN,hd,l,hl,a,hw,hlen=>by
  rw [zyY]
  unfold zoy zpn
  have hml:roomLen=140737488351232:=rfl
  have ih:=fun y (h1:zid y) (h2:y.length≤roomLen) l hl=>zI8 d N (by omega) (by omega) l hl y h1 h2
  have e0:(((d+1:Nat):Int)==(0:Int))=false:=by
   rw [beq_eq_false_iff_ne]; omega
  obtain ⟨n',h1,h2,h3,h4⟩:=w5 (zmw N) a l d hl (by omega) ((d+1)*4503599627370496) (by omega) (zy d) (fun t ht=>(zvA (zuC hw t ht)).2.2) (fun t ht f hf=>by
   have hx:=zvk (zrd (zpN (zvA (zuC hw t ht)).2.1 f hf)).1
   refine ⟨hx.1.2,hx.2.1.2,hx.2.2.1.2.2,fun y hy l hl=> ?_,fun y hy=> ?_⟩
   ·have:=zl7 hx.1.1 y hy
    exact ih y this.1 this.2 l hl
   ·have:=zqb hx.2.1.1 y hy
    exact ⟨this.1.2.2,fun l hl=>ih y.Ann this.2.1 this.2.2 l hl⟩) hlen (a.length+l+(d+1)+Int.toNat 0+Int.toNat 0+1) 0 0 (by omega) (by omega) (by omega)
  rw [show ((0:Nat):Int)=(0:Int) from rfl] at h1
  refine ⟨n', ?_,by omega,fun hn=> ?_⟩
  ·simp only [Wy.fin_i,Wy.fin_k,Wy.fin_bn,e0,cond_false,Int.toNat_natCast,h1,cond_true]
  ·obtain ⟨⟨h5,h12⟩,h6⟩:=h4 hn
   rw [List.drop_zero] at h12
   refine ⟨⟨by omega,fun t ht=> ?_⟩,by omega⟩
   obtain ⟨h7,h8⟩:=h6 t (by simpa using ht)
   refine ⟨by omega,fun f hf=> ?_⟩
   obtain ⟨h9,h10,h11⟩:=h8 f hf
   exact ⟨⟨by omega,by omega,by omega⟩,h10,fun w hw=>⟨by have:=(h11 w hw).1; omega,(h11 w hw).2⟩⟩
theorem zKG (limit:Nat) (hl:limit≤1000) (l:List (List Term)) (hll:l.length≤1000) (hw:∀ a∈l,zid a∧a.length≤roomLen):∀ (n i:Nat),l.length<i+n→i≤l.length→∃ r,zzQ n limit l i=(true,r)∧((r=.inl false)∨(r=.inr ()∧∀ a∈l.drop i,zy 12 a∧zf1 a≤limit))
 | 0,i,h1,h2=>by omega
 | n+1,i,h1,h2=>by
  show ∃ r,(zAu limit l i).ev (fun x y=>zzQ n x.1 x.2.1 x.2.2.1) (fun r=>(true,r)) (false,.inl default)=(true,r)∧_
  unfold zAu
  by_cases hi:i<l.length
  ·obtain ⟨w,q1,q2,q3⟩:=zI8 12 1000 (by omega) (by omega) limit hl _ (hw _ (zH hi)).1 (hw _ (zH hi)).2
   have q1':zAJ (l.getD i default) (limit:Int) 12=(true,(w:Int)):=q1
   simp only [Wy.ev_i,Wy.ev_k,Wy.ev_h,Wy.ev_bn,Wy.ev_d,tT,hi,q1',zom]
   by_cases hg:limit<w
   ·simp only [hg,decide_true,cond_true]
    exact ⟨_,rfl,.inl rfl⟩
   ·simp only [hg,decide_false,cond_false]
    rw [zbb (by omega)]
    obtain ⟨r,h3,h4⟩:=zKG limit hl l hll hw n (i+1) (by omega) (by omega)
    refine ⟨r,h3, ?_⟩
    rcases h4 with h4 | ⟨h4,h5⟩
    ·exact .inl h4
    ·refine .inr ⟨h4,fun a ha=> ?_⟩
     rw [zbF hi] at ha
     rcases List.mem_cons.1 ha with rfl | ha
     ·exact ⟨(q3 (by omega)).1,by have:=(q3 (by omega)).2; omega⟩
     ·exact h5 a ha
  ·simp only [Wy.ev_i,Wy.ev_k,Wy.ev_h,Wy.ev_bn,Wy.ev_d,tT,hi]
   exact ⟨_,rfl,.inr ⟨rfl,fun a ha=>by rw [zeR hi] at ha; cases ha⟩⟩
theorem zQM (limit:Nat) (hl:limit≤1000) (l:List (List Term)) (hll:l.length≤1000) (hw:∀ a∈l,zid a∧a.length≤roomLen):∃ b,zuy limit l=(true,b)∧(b=true→∀ a∈l,zy 12 a∧zf1 a≤limit):=by
 unfold zuy zCe
 obtain ⟨r,h1,h2⟩:=zKG limit hl l hll hw (limit+l.length+Int.toNat 0+1) 0 (by omega) (by omega)
 rw [show ((0:Nat):Int)=(0:Int) from rfl] at h1
 rw [Wy.fin_bn]
 simp only [Int.toNat_natCast,h1,cond_true]
 rcases h2 with rfl | ⟨rfl,h2⟩
 ·exact ⟨false,rfl,fun h=>by cases h⟩
 ·exact ⟨true,rfl,fun _ a ha=>h2 a (by simpa using ha)⟩
end Go.Proofs.YtnolcogncjijpaaGreatDoor
/- What lies inside lists of terms and factors: fuel for loops. -/
namespace Go.Proofs.YtnolcogncjijpaaGreatDoor
def szFs:List Factor→Nat
 | []=>0
 | f::r=>f.Exp.toNat +f.Atom.Args.length+f.Atom.Items.length+1+szFs r
def szTs:List Term→Nat
 | []=>0
 | t::r=>szFs t.Factors+1+szTs r
end Go.Proofs.YtnolcogncjijpaaGreatDoor
namespace Go.Proofs.YtnolcogncjijpaaGreatDoor
open Go Go.Ab
abbrev znp:=List Term×Int×Int×Int×Unit×Int×Unit
abbrev ttTref05Size1:=List Term×Int×Int×Int×Atom
abbrev ttTref05Size2:=List Term×Int×Int×Int
abbrev zyr:=List Term×Int×Int×Int×Unit
abbrev ttTref05Size4:=List Term×Int×Int
abbrev zyJ:=List Term×Int×Int×Unit
def zmI (zbn:List Term→Bool×Int) (a:List Term) (n_:Int) (i:Int) (k:Int) (j:Int) (x_:Atom):Wy znp (Atom×Unit) ttTref05Size1:=.i (decide (j<Int.ofNat x_.Args.length)) (.i (decide (0≤j)&&decide (j<Int.ofNat x_.Args.length)) (.bn (zbn (x_.Args.getD j.toNat default)) fun r0=>.h (a,(IntKind.i64.wrap (n_+r0)),i,k,(),(IntKind.i64.wrap (j+1)),()) (x_,())) .d) (.k (a,n_,i,k,x_))
def zzY (zbn:List Term→Bool×Int) (x:znp) (y:Atom×Unit):Wy znp (Atom×Unit) ttTref05Size1:=zmI zbn x.1 x.2.1 x.2.2.1 x.2.2.2.1 x.2.2.2.2.2.1 y.1
def zAA (zbn:List Term→Bool×Int) (n:Nat) (a:List Term) (n_:Int) (i:Int) (k:Int) (j:Int) (x_:Atom):Bool×ttTref05Size1:=zN (zzY zbn) default n (a,n_,i,k,(),j,()) (x_,())
def zmT (zbn:List Term→Bool×Int) (a:List Term) (n_:Int) (i:Int) (k:Int) (j:Int) (x_:Atom):Wy znp (Atom×Unit) ttTref05Size2:=.i (decide (j<Int.ofNat x_.Items.length)) (.i (decide (0≤j)&&decide (j<Int.ofNat x_.Items.length)) (.bn (zbn (x_.Items.getD j.toNat default).Ann) fun r2=>.h (a,(IntKind.i64.wrap (IntKind.i64.wrap (n_+1)+r2)),i,k,(),(IntKind.i64.wrap (j+1)),()) (x_,())) .d) (.k (a,n_,i,k))
def zAO (zbn:List Term→Bool×Int) (x:znp) (y:Atom×Unit):Wy znp (Atom×Unit) ttTref05Size2:=zmT zbn x.1 x.2.1 x.2.2.1 x.2.2.2.1 x.2.2.2.2.2.1 y.1
def zzS (zbn:List Term→Bool×Int) (n:Nat) (a:List Term) (n_:Int) (i:Int) (k:Int) (j:Int) (x_:Atom):Bool×ttTref05Size2:=zN (zAO zbn) default n (a,n_,i,k,(),j,()) (x_,())
def znB (zbn:List Term→Bool×Int) (a:List Term) (n_:Int) (i:Int) (k:Int):Wy zyr (Unit) ttTref05Size4:=.i (decide (0≤i)&&decide (i<Int.ofNat a.length)) (.i (decide (k<Int.ofNat (a.getD i.toNat default).Factors.length)) (.i (decide (0≤i)&&decide (i<Int.ofNat a.length)) (.i (decide (0≤k)&&decide (k<Int.ofNat (a.getD i.toNat default).Factors.length)) (.bn (zAA zbn (((a.length+(IntKind.i64.wrap (n_+1)).toNat +i.toNat +k.toNat +Int.toNat 0+1)+(Atom.mk ((a.getD i.toNat default).Factors.getD k.toNat default).Atom.Kind ((a.getD i.toNat default).Factors.getD k.toNat default).Atom.Row ((a.getD i.toNat default).Factors.getD k.toNat default).Atom.Args ((a.getD i.toNat default).Factors.getD k.toNat default).Atom.Func ((a.getD i.toNat default).Factors.getD k.toNat default).Atom.Items ((a.getD i.toNat default).Factors.getD k.toNat default).Atom.Op ((a.getD i.toNat default).Factors.getD k.toNat default).Atom.Bound).Args.length+(Atom.mk ((a.getD i.toNat default).Factors.getD k.toNat default).Atom.Kind ((a.getD i.toNat default).Factors.getD k.toNat default).Atom.Row ((a.getD i.toNat default).Factors.getD k.toNat default).Atom.Args ((a.getD i.toNat default).Factors.getD k.toNat default).Atom.Func ((a.getD i.toNat default).Factors.getD k.toNat default).Atom.Items ((a.getD i.toNat default).Factors.getD k.toNat default).Atom.Op ((a.getD i.toNat default).Factors.getD k.toNat default).Atom.Bound).Items.length)+szTs a) a (IntKind.i64.wrap (n_+1)) i k 0 (Atom.mk ((a.getD i.toNat default).Factors.getD k.toNat default).Atom.Kind ((a.getD i.toNat default).Factors.getD k.toNat default).Atom.Row ((a.getD i.toNat default).Factors.getD k.toNat default).Atom.Args ((a.getD i.toNat default).Factors.getD k.toNat default).Atom.Func ((a.getD i.toNat default).Factors.getD k.toNat default).Atom.Items ((a.getD i.toNat default).Factors.getD k.toNat default).Atom.Op ((a.getD i.toNat default).Factors.getD k.toNat default).Atom.Bound)) fun r5=>.bn (zzS zbn (((r5.1.length+r5.2.1.toNat +r5.2.2.1.toNat +r5.2.2.2.1.toNat +Int.toNat 0+1)+(Atom.mk r5.2.2.2.2.Kind r5.2.2.2.2.Row r5.2.2.2.2.Args r5.2.2.2.2.Func r5.2.2.2.2.Items r5.2.2.2.2.Op r5.2.2.2.2.Bound).Args.length+(Atom.mk r5.2.2.2.2.Kind r5.2.2.2.2.Row r5.2.2.2.2.Args r5.2.2.2.2.Func r5.2.2.2.2.Items r5.2.2.2.2.Op r5.2.2.2.2.Bound).Items.length)+szTs r5.1) r5.1 r5.2.1 r5.2.2.1 r5.2.2.2.1 0 (Atom.mk r5.2.2.2.2.Kind r5.2.2.2.2.Row r5.2.2.2.2.Args r5.2.2.2.2.Func r5.2.2.2.2.Items r5.2.2.2.2.Op r5.2.2.2.2.Bound)) fun r4=>.h ((r4.1),(r4.2.1),(r4.2.2.1),(IntKind.i64.wrap (r4.2.2.2+1)),()) ()) .d) .d) (.k (a,n_,i))) .d
def zBH (zbn:List Term→Bool×Int) (x:zyr) (y:Unit):Wy zyr (Unit) ttTref05Size4:=znB zbn x.1 x.2.1 x.2.2.1 x.2.2.2.1
def zBG (zbn:List Term→Bool×Int) (n:Nat) (a:List Term) (n_:Int) (i:Int) (k:Int):Bool×ttTref05Size4:=zN (zBH zbn) default n (a,n_,i,k,()) ()
def znI (zbn:List Term→Bool×Int) (a:List Term) (n_:Int) (i:Int):Wy zyJ (Unit) (Int):=.i (decide (i<Int.ofNat a.length)) (.bn (zBG zbn ((a.length+(IntKind.i64.wrap (n_+1)).toNat +i.toNat +Int.toNat 0+1)+szTs a) a (IntKind.i64.wrap (n_+1)) i 0) fun r8=>.h ((r8.1),(r8.2.1),(IntKind.i64.wrap (r8.2.2+1)),()) ()) (.k n_)
def zBU (zbn:List Term→Bool×Int) (x:zyJ) (y:Unit):Wy zyJ (Unit) (Int):=znI zbn x.1 x.2.1 x.2.2.1
def zBD (zbn:List Term→Bool×Int) (n:Nat) (a:List Term) (n_:Int) (i:Int):Bool×Int:=zN (zBU zbn) default n (a,n_,i,()) ()
def zCR (zbn:List Term→Bool×Int) (a:List Term):Wy0 (Int):=.bn (zBD zbn ((a.length+Int.toNat 0+Int.toNat 0+1)+szTs a) a 0 0) fun r10=>.k r10
def zA1 (zbn:List Term→Bool×Int) (a:List Term):Bool×Int:=(zCR zbn a).fin default
def zJm:Nat→(List Term→Bool×Int)
 | 0=>fun _=>(false,default)
 | n+1=>zA1 (zJm n)
def zqU (n:Nat):List Term→Bool×Int:=zJm n
theorem zHg (n:Nat):zqU (n+1)=zA1 (zqU n):=rfl
def zHe:List Term→Bool×Int:=zqU 1000
abbrev zj6:=List Term×Int×Int×Int×Unit×Int×Int×Unit
abbrev ttTref05Nesting1:=List Term×Int×Int×Int×Int×Atom
abbrev ttTref05Nesting2:=List Term×Int×Int×Int×Int
abbrev ztI:=List Term×Int×Int×Int×Unit
abbrev ttTref05Nesting4:=List Term×Int×Int
abbrev ztP:=List Term×Int×Int×Unit
def zjU (zX:List Term→Bool×Int) (a:List Term) (most:Int) (i:Int) (k:Int) (n_:Int) (j:Int) (x_:Atom):Wy zj6 (Atom×Unit) ttTref05Nesting1:=.i (decide (j<Int.ofNat x_.Args.length)) (.i (decide (0≤j)&&decide (j<Int.ofNat x_.Args.length)) (.bn (zX (x_.Args.getD j.toNat default)) fun r0=>.h (a,most,i,k,(),(if IntKind.i64.wrap (1+r0)>n_ then IntKind.i64.wrap (1+r0) else n_),(IntKind.i64.wrap (j+1)),()) (x_,())) .d) (.k (a,most,i,k,n_,x_))
def zv8 (zX:List Term→Bool×Int) (x:zj6) (y:Atom×Unit):Wy zj6 (Atom×Unit) ttTref05Nesting1:=zjU zX x.1 x.2.1 x.2.2.1 x.2.2.2.1 x.2.2.2.2.2.1 x.2.2.2.2.2.2.1 y.1
def zqg (zX:List Term→Bool×Int) (n:Nat) (a:List Term) (most:Int) (i:Int) (k:Int) (n_:Int) (j:Int) (x_:Atom):Bool×ttTref05Nesting1:=zN (zv8 zX) default n (a,most,i,k,(),n_,j,()) (x_,())
def zj0 (zX:List Term→Bool×Int) (a:List Term) (most:Int) (i:Int) (k:Int) (n_:Int) (j:Int) (x_:Atom):Wy zj6 (Atom×Unit) ttTref05Nesting2:=.i (decide (j<Int.ofNat x_.Items.length)) (.i (decide (0≤j)&&decide (j<Int.ofNat x_.Items.length)) (.bn (zX (x_.Items.getD j.toNat default).Ann) fun r2=>.h (a,most,i,k,(),(if IntKind.i64.wrap (1+r2)>n_ then IntKind.i64.wrap (1+r2) else n_),(IntKind.i64.wrap (j+1)),()) (x_,())) .d) (.k (a,most,i,k,n_))
def zv7 (zX:List Term→Bool×Int) (x:zj6) (y:Atom×Unit):Wy zj6 (Atom×Unit) ttTref05Nesting2:=zj0 zX x.1 x.2.1 x.2.2.1 x.2.2.2.1 x.2.2.2.2.2.1 x.2.2.2.2.2.2.1 y.1
def zv6 (zX:List Term→Bool×Int) (n:Nat) (a:List Term) (most:Int) (i:Int) (k:Int) (n_:Int) (j:Int) (x_:Atom):Bool×ttTref05Nesting2:=zN (zv7 zX) default n (a,most,i,k,(),n_,j,()) (x_,())
def zkJ (zX:List Term→Bool×Int) (a:List Term) (most:Int) (i:Int) (k:Int):Wy ztI (Unit) ttTref05Nesting4:=.i (decide (0≤i)&&decide (i<Int.ofNat a.length)) (.i (decide (k<Int.ofNat (a.getD i.toNat default).Factors.length)) (.i (decide (0≤i)&&decide (i<Int.ofNat a.length)) (.i (decide (0≤k)&&decide (k<Int.ofNat (a.getD i.toNat default).Factors.length)) (.i (((a.getD i.toNat default).Factors.getD k.toNat default).Atom.Kind==0) (.h (a,most,i,(IntKind.i64.wrap (k+1)),()) ()) (.bn (zqg zX (((a.length+most.toNat +i.toNat +k.toNat +Int.toNat 1+Int.toNat 0+1)+(Atom.mk ((a.getD i.toNat default).Factors.getD k.toNat default).Atom.Kind ((a.getD i.toNat default).Factors.getD k.toNat default).Atom.Row ((a.getD i.toNat default).Factors.getD k.toNat default).Atom.Args ((a.getD i.toNat default).Factors.getD k.toNat default).Atom.Func ((a.getD i.toNat default).Factors.getD k.toNat default).Atom.Items ((a.getD i.toNat default).Factors.getD k.toNat default).Atom.Op ((a.getD i.toNat default).Factors.getD k.toNat default).Atom.Bound).Args.length+(Atom.mk ((a.getD i.toNat default).Factors.getD k.toNat default).Atom.Kind ((a.getD i.toNat default).Factors.getD k.toNat default).Atom.Row ((a.getD i.toNat default).Factors.getD k.toNat default).Atom.Args ((a.getD i.toNat default).Factors.getD k.toNat default).Atom.Func ((a.getD i.toNat default).Factors.getD k.toNat default).Atom.Items ((a.getD i.toNat default).Factors.getD k.toNat default).Atom.Op ((a.getD i.toNat default).Factors.getD k.toNat default).Atom.Bound).Items.length)+szTs a) a most i k 1 0 (Atom.mk ((a.getD i.toNat default).Factors.getD k.toNat default).Atom.Kind ((a.getD i.toNat default).Factors.getD k.toNat default).Atom.Row ((a.getD i.toNat default).Factors.getD k.toNat default).Atom.Args ((a.getD i.toNat default).Factors.getD k.toNat default).Atom.Func ((a.getD i.toNat default).Factors.getD k.toNat default).Atom.Items ((a.getD i.toNat default).Factors.getD k.toNat default).Atom.Op ((a.getD i.toNat default).Factors.getD k.toNat default).Atom.Bound)) fun r5=>.bn (zv6 zX (((r5.1.length+r5.2.1.toNat +r5.2.2.1.toNat +r5.2.2.2.1.toNat +r5.2.2.2.2.1.toNat +Int.toNat 0+1)+(Atom.mk r5.2.2.2.2.2.Kind r5.2.2.2.2.2.Row r5.2.2.2.2.2.Args r5.2.2.2.2.2.Func r5.2.2.2.2.2.Items r5.2.2.2.2.2.Op r5.2.2.2.2.2.Bound).Args.length+(Atom.mk r5.2.2.2.2.2.Kind r5.2.2.2.2.2.Row r5.2.2.2.2.2.Args r5.2.2.2.2.2.Func r5.2.2.2.2.2.Items r5.2.2.2.2.2.Op r5.2.2.2.2.2.Bound).Items.length)+szTs r5.1) r5.1 r5.2.1 r5.2.2.1 r5.2.2.2.1 r5.2.2.2.2.1 0 (Atom.mk r5.2.2.2.2.2.Kind r5.2.2.2.2.2.Row r5.2.2.2.2.2.Args r5.2.2.2.2.2.Func r5.2.2.2.2.2.Items r5.2.2.2.2.2.Op r5.2.2.2.2.2.Bound)) fun r4=>.h ((r4.1),(if r4.2.2.2.2>r4.2.1 then r4.2.2.2.2 else r4.2.1),(r4.2.2.1),(IntKind.i64.wrap (r4.2.2.2.1+1)),()) ())) .d) .d) (.k (a,most,i))) .d
def zxU (zX:List Term→Bool×Int) (x:ztI) (y:Unit):Wy ztI (Unit) ttTref05Nesting4:=zkJ zX x.1 x.2.1 x.2.2.1 x.2.2.2.1
def zxN (zX:List Term→Bool×Int) (n:Nat) (a:List Term) (most:Int) (i:Int) (k:Int):Bool×ttTref05Nesting4:=zN (zxU zX) default n (a,most,i,k,()) ()
def zkD (zX:List Term→Bool×Int) (a:List Term) (most:Int) (i:Int):Wy ztP (Unit) (Int):=.i (decide (i<Int.ofNat a.length)) (.bn (zxN zX ((a.length+most.toNat +i.toNat +Int.toNat 0+1)+szTs a) a most i 0) fun r8=>.h ((r8.1),(r8.2.1),(IntKind.i64.wrap (r8.2.2+1)),()) ()) (.k most)
def zxh (zX:List Term→Bool×Int) (x:ztP) (y:Unit):Wy ztP (Unit) (Int):=zkD zX x.1 x.2.1 x.2.2.1
def zxF (zX:List Term→Bool×Int) (n:Nat) (a:List Term) (most:Int) (i:Int):Bool×Int:=zN (zxh zX) default n (a,most,i,()) ()
def zzf (zX:List Term→Bool×Int) (a:List Term):Wy0 (Int):=.bn (zxF zX ((a.length+Int.toNat 0+Int.toNat 0+1)+szTs a) a 0 0) fun r10=>.k r10
def zva (zX:List Term→Bool×Int) (a:List Term):Bool×Int:=(zzf zX a).fin default
def zFS:Nat→(List Term→Bool×Int)
 | 0=>fun _=>(false,default)
 | n+1=>zva (zFS n)
def zkW (n:Nat):List Term→Bool×Int:=zFS n
theorem zEV (n:Nat):zkW (n+1)=zva (zkW n):=rfl
def zEb:List Term→Bool×Int:=zkW 1000
mutual
def zeq:Atom→Nat
 | ⟨_,_,a,_,i,_,_⟩=>zes a+zc9 i
def zbA:List Factor→Nat
 | []=>0
 | ⟨x,_⟩::r=>zeq x+zbA r
def zJ:List Term→Nat
 | []=>0
 | ⟨_,fs⟩::r=>1+fs.length+zbA fs+zJ r
def zes:List (List Term)→Nat
 | []=>0
 | a::r=>zJ a+zes r
def zc9:List Weighted→Nat
 | []=>0
 | ⟨_,a⟩::r=>1+zJ a+zc9 r
end
theorem zif (x:Atom):zeq x=zes x.Args+zc9 x.Items:=by cases x; rw [zeq]
theorem zeE (f:Factor) (r:List Factor):zbA (f::r)=zeq f.Atom+zbA r:=by cases f; rw [zbA]
theorem zh1 (t:Term) (r:List Term):zJ (t::r)=1+t.Factors.length+zbA t.Factors+zJ r:=by cases t; rw [zJ]
theorem zdX (a:List Term) (r:List (List Term)):zes (a::r)=zJ a+zes r:=by rw [zes]
theorem zic (w:Weighted) (r:List Weighted):zc9 (w::r)=1+zJ w.Ann+zc9 r:=by cases w; rw [zc9]
theorem zhY:zes []=0:=by rw [zes]
theorem zgD:zc9 []=0:=by rw [zc9]
theorem zmq:zbA []=0:=by rw [zbA]
theorem zr3:zJ []=0:=by rw [zJ]
theorem zHt (l:List (List Term)):∀ n:Nat,l.foldl (fun s t=>s+zJ t) n=n+zes l:=by
 induction l with
 | nil=>intro n; rw [zhY]; rfl
 | cons a r ih=>intro n; rw [List.foldl_cons,ih,zdX]; omega
theorem zGq (l:List Weighted):∀ n:Nat,l.foldl (fun s t=>s+1+zJ t.Ann) n=n+zc9 l:=by
 induction l with
 | nil=>intro n; rw [zgD]; rfl
 | cons a r ih=>intro n; rw [List.foldl_cons,ih,zic]; omega
theorem zJP (l:List Factor):∀ n:Nat,l.foldl (fun s t=>s+zeq t.Atom) n=n+zbA l:=by
 induction l with
 | nil=>intro n; rw [zmq]; rfl
 | cons a r ih=>intro n; rw [List.foldl_cons,ih,zeE]; omega
theorem zJE (l:List Term):∀ n:Nat,l.foldl (fun s t=>s+1+t.Factors.length+zbA t.Factors) n=n+zJ l:=by
 induction l with
 | nil=>intro n; rw [zr3]; rfl
 | cons a r ih=>intro n; rw [List.foldl_cons,ih,zh1]; omega
theorem zmS {n m:Nat} (h:n+m≤4611686018427387904):IntKind.i64.wrap ((n:Int)+(m:Int))=((n+m:Nat):Int):=by
 rw [zF5 (by omega) (by omega)]; omega
theorem zfh {i:Nat} (h:i<4611686018427387904):IntKind.i64.wrap ((i:Int)+1)=((i+1:Nat):Int):=zbb h
section
variable (g:List Term→Bool×Int)
theorem zQq (l:List (List Term)) (hl:l.length≤1000000) (hg:∀ y∈l,g y=(true,(zJ y:Int))) (t12:List Term) (t13 t14:Int) (t25:List Factor) (t26 t27:Int) (f:Factor) (fuel n:Nat) (hf:l.length<fuel) (hn:n+zes l≤4611686018427387904):
  zt2 g fuel n t12 t13 t14 t25 t26 t27 l l.length 0 f=(true,(((n+zes l:Nat):Int),t12,t13,t14,t25,t26,t27,f)):=by
 have h:=zda (W:=zk0 g) (z:=default) (l:=l) (fun i (n:Nat)=>((n:Int),(),t12,t13,t14,t25,t26,t27,l,(l.length:Int),(i:Int),())) (fun _ _=>(f,())) (fun y n=>.inl (n+zJ y)) (fun n=>((n:Int),t12,t13,t14,t25,t26,t27,f)) (fun i n=>n+zes (l.drop i)≤4611686018427387904)
  (fun i n hi hI=>.inl ⟨_,rfl,by rw [zbF hi,zdX] at hI; omega,fun H K D=>by
   rw [zbF hi,zdX] at hI
   show (ziy g n t12 t13 t14 t25 t26 t27 l l.length i f).ev H K D=_
   unfold ziy
   simp only [Wy.ev_i,Wy.ev_k,Wy.ev_h,Wy.ev_bn,Wy.ev_d,tT,hi,hg _ (zH hi)]
   rw [zmS (by omega),zfh (by omega)]⟩)
  (fun n hI H K D=>by
   show (ziy g n t12 t13 t14 t25 t26 t27 l l.length l.length f).ev H K D=_
   unfold ziy
   simp only [Wy.ev_i,Wy.ev_k,tT,Nat.lt_irrefl]) fuel 0 n (by omega) (Nat.zero_le _) (by simpa using hn)
 rw [List.drop_zero,zdd,zHt] at h
 exact h
theorem zPP (l:List Weighted) (hl:l.length≤1000000) (hg:∀ y∈l,g y.Ann=(true,(zJ y.Ann:Int))) (t12:List Term) (t13 t14:Int) (t25:List Factor) (t26 t27:Int) (fuel n:Nat) (hf:l.length<fuel) (hn:n+zc9 l≤4611686018427387904):
  zuz g fuel n t12 t13 t14 t25 t26 t27 l l.length 0=(true,(((n+zc9 l:Nat):Int),t12,t13,t14,t25,t26,t27)):=by
 have h:=zda (W:=zkU g) (z:=default) (l:=l) (fun i (n:Nat)=>((n:Int),t12,t13,t14,t25,t26,t27,l,(l.length:Int),(i:Int),())) (fun _ _=>()) (fun y n=>.inl (n+1+zJ y.Ann)) (fun n=>((n:Int),t12,t13,t14,t25,t26,t27)) (fun i n=>n+zc9 (l.drop i)≤4611686018427387904)
  (fun i n hi hI=>.inl ⟨_,rfl,by rw [zbF hi,zic] at hI; omega,fun H K D=>by
   rw [zbF hi,zic] at hI
   show (ziu g n t12 t13 t14 t25 t26 t27 l l.length i).ev H K D=_
   unfold ziu
   simp only [Wy.ev_i,Wy.ev_k,Wy.ev_h,Wy.ev_bn,Wy.ev_d,tT,hi,hg _ (zH hi)]
   rw [zfh (by omega),show (1:Int)=((1:Nat):Int) from rfl,zmS (by omega),zmS (by omega), ← Nat.add_assoc]⟩)
  (fun n hI H K D=>by
   show (ziu g n t12 t13 t14 t25 t26 t27 l l.length l.length).ev H K D=_
   unfold ziu
   simp only [Wy.ev_i,Wy.ev_k,tT,Nat.lt_irrefl]) fuel 0 n (by omega) (Nat.zero_le _) (by simpa using hn)
 rw [List.drop_zero,zdd,zGq] at h
 exact h
theorem zQD (l:List Factor) (hl:l.length≤1000000) (hg:∀ f∈l,(f.Atom.Args.length≤1000000∧f.Atom.Items.length≤1000000)∧(∀ y∈f.Atom.Args,g y=(true,(zJ y:Int)))∧∀ y∈f.Atom.Items,g y.Ann=(true,(zJ y.Ann:Int))) (t12:List Term) (t13 t14:Int) (fuel n:Nat) (hf:l.length<fuel) (hn:n+zbA l≤4611686018427387904):
  zu7 g fuel n t12 t13 t14 l l.length 0=(true,(((n+zbA l:Nat):Int),t12,t13,t14)):=by
 have h:=zda (W:=zl6 g) (z:=default) (l:=l) (fun i (n:Nat)=>((n:Int),t12,t13,t14,l,(l.length:Int),(i:Int),())) (fun _ _=>()) (fun y n=>.inl (n+zeq y.Atom)) (fun n=>((n:Int),t12,t13,t14)) (fun i n=>n+zbA (l.drop i)≤4611686018427387904)
  (fun i n hi hI=>.inl ⟨_,rfl,by rw [zbF hi,zeE] at hI; omega,fun H K D=>by
   rw [zbF hi,zeE,zif] at hI
   obtain ⟨⟨h1,h2⟩,h3,h4⟩:=hg _ (zH hi)
   show (zi2 g n t12 t13 t14 l l.length i).ev H K D=_
   unfold zi2
   simp only [Wy.ev_i,Wy.ev_k,Wy.ev_h,Wy.ev_bn,Wy.ev_d,tT,hi,Atom.eta]
   rw [zQq g _ h1 h3 _ _ _ _ _ _ _ _ _ (by omega) (by omega)]
   simp only [cond_true,Int.toNat_natCast]
   rw [zPP g _ h2 h4 _ _ _ _ _ _ _ _ (by omega) (by omega)]
   simp only [cond_true]
   rw [zfh (by omega),zif,Nat.add_assoc]⟩)
  (fun n hI H K D=>by
   show (zi2 g n t12 t13 t14 l l.length l.length).ev H K D=_
   unfold zi2
   simp only [Wy.ev_i,Wy.ev_k,tT,Nat.lt_irrefl]) fuel 0 n (by omega) (Nat.zero_le _) (by simpa using hn)
 rw [List.drop_zero,zdd,zJP] at h
 exact h
theorem zQY (l:List Term) (hl:l.length≤1000000) (hg:∀ t∈l,t.Factors.length≤1000000∧∀ f∈t.Factors,(f.Atom.Args.length≤1000000∧f.Atom.Items.length≤1000000)∧(∀ y∈f.Atom.Args,g y=(true,(zJ y:Int)))∧∀ y∈f.Atom.Items,g y.Ann=(true,(zJ y.Ann:Int))) (fuel n:Nat) (hf:l.length<fuel) (hn:n+zJ l≤4611686018427387904):
  zvg g fuel n l l.length 0=(true,((n+zJ l:Nat):Int)):=by
 have h:=zda (W:=zlL g) (z:=default) (l:=l) (fun i (n:Nat)=>((n:Int),l,(l.length:Int),(i:Int),())) (fun _ _=>()) (fun y n=>.inl (n+1+y.Factors.length+zbA y.Factors)) (fun n=>(n:Int)) (fun i n=>n+zJ (l.drop i)≤4611686018427387904)
  (fun i n hi hI=>.inl ⟨_,rfl,by rw [zbF hi,zh1] at hI; omega,fun H K D=>by
   rw [zbF hi,zh1] at hI
   obtain ⟨h1,h3⟩:=hg _ (zH hi)
   show (zi7 g n l l.length i).ev H K D=_
   unfold zi7
   simp only [Wy.ev_i,Wy.ev_k,Wy.ev_h,Wy.ev_bn,Wy.ev_d,tT,hi,Atom.eta]
   rw [show (1:Int)=((1:Nat):Int) from rfl,zmS (n:=1) (by omega),zmS (by omega)]
   rw [zQD g _ h1 h3 _ _ _ _ _ (by omega) (by omega)]
   simp only [cond_true]
   rw [show ((1:Nat):Int)=(1:Int) from rfl,zfh (by omega),Nat.add_assoc n 1]⟩)
  (fun n hI H K D=>by
   show (zi7 g n l l.length l.length).ev H K D=_
   unfold zi7
   simp only [Wy.ev_i,Wy.ev_k,tT,Nat.lt_irrefl]) fuel 0 n (by omega) (Nat.zero_le _) (by simpa using hn)
 rw [List.drop_zero,zdd,zJE] at h
 exact h
theorem zO5 (x:Atom) (hl:x.Args.length≤1000000) (hg:∀ y∈x.Args,g y=(true,(zJ y:Int))) (a:List Term) (i k:Int) (fuel n:Nat) (hf:x.Args.length<fuel) (hn:n+zes x.Args≤4611686018427387904):
  zAA g fuel a n i k 0 x=(true,(a,((n+zes x.Args:Nat):Int),i,k,x)):=by
 have h:=zda (W:=zzY g) (z:=default) (l:=x.Args) (fun j (n:Nat)=>(a,(n:Int),i,k,(),(j:Int),())) (fun _ _=>(x,())) (fun y n=>.inl (n+zJ y)) (fun n=>(a,(n:Int),i,k,x)) (fun i n=>n+zes (x.Args.drop i)≤4611686018427387904)
  (fun j n hi hI=>.inl ⟨_,rfl,by rw [zbF hi,zdX] at hI; omega,fun H K D=>by
   rw [zbF hi,zdX] at hI
   show (zmI g a n i k j x).ev H K D=_
   unfold zmI
   simp only [Wy.ev_i,Wy.ev_k,Wy.ev_h,Wy.ev_bn,Wy.ev_d,tT,hi,hg _ (zH hi)]
   rw [zmS (by omega),zfh (by omega)]⟩)
  (fun n hI H K D=>by
   show (zmI g a n i k x.Args.length x).ev H K D=_
   unfold zmI
   simp only [Wy.ev_i,Wy.ev_k,tT,Nat.lt_irrefl]) fuel 0 n (by omega) (Nat.zero_le _) (by simpa using hn)
 rw [List.drop_zero,zdd,zHt] at h
 exact h
theorem zPh (x:Atom) (hl:x.Items.length≤1000000) (hg:∀ y∈x.Items,g y.Ann=(true,(zJ y.Ann:Int))) (a:List Term) (i k:Int) (fuel n:Nat) (hf:x.Items.length<fuel) (hn:n+zc9 x.Items≤4611686018427387904):
  zzS g fuel a n i k 0 x=(true,(a,((n+zc9 x.Items:Nat):Int),i,k)):=by
 have h:=zda (W:=zAO g) (z:=default) (l:=x.Items) (fun j (n:Nat)=>(a,(n:Int),i,k,(),(j:Int),())) (fun _ _=>(x,())) (fun y n=>.inl (n+1+zJ y.Ann)) (fun n=>(a,(n:Int),i,k)) (fun i n=>n+zc9 (x.Items.drop i)≤4611686018427387904)
  (fun j n hi hI=>.inl ⟨_,rfl,by rw [zbF hi,zic] at hI; omega,fun H K D=>by
   rw [zbF hi,zic] at hI
   show (zmT g a n i k j x).ev H K D=_
   unfold zmT
   simp only [Wy.ev_i,Wy.ev_k,Wy.ev_h,Wy.ev_bn,Wy.ev_d,tT,hi,hg _ (zH hi)]
   rw [zfh (i:=j) (by omega),zfh (i:=n) (by omega),zmS (by omega)]⟩)
  (fun n hI H K D=>by
   show (zmT g a n i k x.Items.length x).ev H K D=_
   unfold zmT
   simp only [Wy.ev_i,Wy.ev_k,tT,Nat.lt_irrefl]) fuel 0 n (by omega) (Nat.zero_le _) (by simpa using hn)
 rw [List.drop_zero,zdd,zGq] at h
 exact h
theorem zAo:∀ (a:List Term) (i:Nat),i<a.length→(a.getD i default).Factors.length≤szTs a
 | [],i,h=>by simp at h
 | t::r,0,h=>by
  have:∀ l:List Factor,l.length≤szFs l:=fun l=>by
   induction l with
   | nil=>exact Nat.le_refl _
   | cons f r ih=>simp only [szFs,List.length_cons]; omega
  have:=this t.Factors
  simp only [szTs,List.getD_cons_zero]; omega
 | t::r,i+1,h=>by
  have:=zAo r i (by simpa using h)
  simp only [szTs,List.getD_cons_succ]; omega
theorem foldl_factors' (l:List Factor):∀ n:Nat,l.foldl (fun s t=>s+1+zeq t.Atom) n=n+l.length+zbA l:=by
 induction l with
 | nil=>intro n; rw [zmq]; rfl
 | cons a r ih=>intro n; rw [List.foldl_cons,ih,zeE,List.length_cons]; omega
theorem zPB (a:List Term) (i:Nat) (hi:i<a.length) (hla:a.length≤1000000) (l:List Factor) (el:(a.getD i default).Factors=l) (hl:l.length≤1000000) (hg:∀ f∈l,(f.Atom.Args.length≤1000000∧f.Atom.Items.length≤1000000)∧(∀ y∈f.Atom.Args,g y=(true,(zJ y:Int)))∧∀ y∈f.Atom.Items,g y.Ann=(true,(zJ y.Ann:Int))) (fuel n:Nat) (hf:l.length<fuel) (hn:n+l.length+zbA l≤4611686018427387904):
  zBG g fuel a n i 0=(true,(a,((n+l.length+zbA l:Nat):Int),(i:Int))):=by
 have h:=zda (W:=zBH g) (z:=default) (l:=l) (fun k (n:Nat)=>(a,(n:Int),(i:Int),(k:Int),())) (fun _ _=>()) (fun y n=>.inl (n+1+zeq y.Atom)) (fun n=>(a,(n:Int),(i:Int))) (fun k n=>n+(l.drop k).length+zbA (l.drop k)≤4611686018427387904)
  (fun k n hk hI=>.inl ⟨_,rfl,by rw [zbF hk,zeE,List.length_cons] at hI; omega,fun H K D=>by
   rw [zbF hk,zeE,zif,List.length_cons] at hI
   obtain ⟨⟨h1,h2⟩,h3,h4⟩:=hg _ (zH hk)
   show (znB g a n i k).ev H K D=_
   unfold znB
   simp only [Wy.ev_i,Wy.ev_k,Wy.ev_h,Wy.ev_bn,Wy.ev_d,tT,hi,el,hk,Atom.eta]
   rw [zfh (i:=n) (by omega)]
   rw [zO5 g _ h1 h3 _ _ _ _ _ (by omega) (by omega)]
   simp only [cond_true,Int.toNat_natCast,Atom.eta]
   rw [zPh g _ h2 h4 _ _ _ _ _ (by omega) (by omega)]
   simp only [cond_true]
   rw [zfh (by omega),zif,Nat.add_assoc (n+1)]⟩)
  (fun n hI H K D=>by
   show (znB g a n i l.length).ev H K D=_
   unfold znB
   simp only [Wy.ev_i,Wy.ev_k,tT,hi,el,Nat.lt_irrefl]) fuel 0 n (by omega) (Nat.zero_le _) (by simpa using hn)
 rw [List.drop_zero,zdd,foldl_factors'] at h
 exact h
theorem zQg (l:List Term) (hl:l.length≤1000000) (hg:∀ t∈l,t.Factors.length≤1000000∧∀ f∈t.Factors,(f.Atom.Args.length≤1000000∧f.Atom.Items.length≤1000000)∧(∀ y∈f.Atom.Args,g y=(true,(zJ y:Int)))∧∀ y∈f.Atom.Items,g y.Ann=(true,(zJ y.Ann:Int))) (fuel n:Nat) (hf:l.length<fuel) (hn:n+zJ l≤4611686018427387904):
  zBD g fuel l n 0=(true,((n+zJ l:Nat):Int)):=by
 have h:=zda (W:=zBU g) (z:=default) (l:=l) (fun i (n:Nat)=>(l,(n:Int),(i:Int),())) (fun _ _=>()) (fun y n=>.inl (n+1+y.Factors.length+zbA y.Factors)) (fun n=>(n:Int)) (fun i n=>n+zJ (l.drop i)≤4611686018427387904)
  (fun i n hi hI=>.inl ⟨_,rfl,by rw [zbF hi,zh1] at hI; omega,fun H K D=>by
   rw [zbF hi,zh1] at hI
   obtain ⟨h1,h3⟩:=hg _ (zH hi)
   have hz:=zAo l i hi
   show (znI g l n i).ev H K D=_
   unfold znI
   simp only [Wy.ev_i,Wy.ev_k,Wy.ev_h,Wy.ev_bn,Wy.ev_d,tT,hi,Atom.eta]
   rw [zfh (i:=n) (by omega)]
   rw [zPB g l i hi hl _ rfl h1 h3 _ _ (by omega) (by omega)]
   simp only [cond_true]
   rw [zfh (by omega)]⟩)
  (fun n hI H K D=>by
   show (znI g l n l.length).ev H K D=_
   unfold znI
   simp only [Wy.ev_i,Wy.ev_k,tT,Nat.lt_irrefl]) fuel 0 n (by omega) (Nat.zero_le _) (by simpa using hn)
 rw [List.drop_zero,zdd,zJE] at h
 exact h
end
theorem zLs {l:List (List Term)} {y:List Term} (h:y∈l):zJ y≤zes l:=by
 induction l with
 | nil=>cases h
 | cons a r ih=>
  rw [zdX]
  rcases List.mem_cons.1 h with rfl | h
  ·omega
  ·have:=ih h; omega
theorem zKs {l:List Weighted} {y:Weighted} (h:y∈l):zJ y.Ann≤zc9 l:=by
 induction l with
 | nil=>cases h
 | cons a r ih=>
  rw [zic]
  rcases List.mem_cons.1 h with rfl | h
  ·omega
  ·have:=ih h; omega
theorem zIP {l:List Factor} {y:Factor} (h:y∈l):zeq y.Atom≤zbA l:=by
 induction l with
 | nil=>cases h
 | cons a r ih=>
  rw [zeE]
  rcases List.mem_cons.1 h with rfl | h
  ·omega
  ·have:=ih h; omega
theorem zMX {l:List Term} {y:Term} (h:y∈l):zbA y.Factors≤zJ l:=by
 induction l with
 | nil=>cases h
 | cons a r ih=>
  rw [zh1]
  rcases List.mem_cons.1 h with rfl | h
  ·omega
  ·have:=ih h; omega
theorem zIr {a:List Term} {t:Term} {f:Factor} (ht:t∈a) (hf:f∈t.Factors):zes f.Atom.Args+zc9 f.Atom.Items≤zJ a:=by
 have h1:=zMX ht; have h2:=zIP hf; rw [zif] at h2; omega
theorem zCk {d:Nat} {a:List Term} (h:zy (d+1) a) {t:Term} (ht:t∈a):t.Factors.length≤1000000∧∀ f∈t.Factors,(f.Atom.Args.length≤1000000∧f.Atom.Items.length≤1000000)∧(∀ y∈f.Atom.Args,zy d y)∧∀ y∈f.Atom.Items,zy d y.Ann:=
 ⟨(h.2 t ht).1,fun f hf=>have q:=(h.2 t ht).2 f hf; ⟨⟨q.1.1,q.1.2.1⟩,q.2.1,fun y hy=>(q.2.2 y hy).2⟩⟩
theorem zG4:∀ (n d:Nat) (a:List Term),zy d a→d≤n→zJ a≤4611686018427387904→zjm n a=(true,(zJ a:Int))∧zqU n a=(true,(zJ a:Int))
 | n,0,a,h,hd,hs=>h.elim
 | 0,d+1,a,h,hd,hs=>by omega
 | n+1,d+1,a,h,hd,hs=>by
  have hg:=fun y (hy:zy d y) (hs:zJ y≤4611686018427387904)=>zG4 n d y hy (by omega) hs
  have hsub:∀ t∈a,t.Factors.length≤1000000∧∀ f∈t.Factors,(f.Atom.Args.length≤1000000∧f.Atom.Items.length≤1000000)∧(∀ y∈f.Atom.Args,zy d y∧zJ y≤4611686018427387904)∧∀ y∈f.Atom.Items,zy d y.Ann∧zJ y.Ann≤4611686018427387904:=fun t ht=>by
   obtain ⟨h1,h2⟩:=zCk h ht
   refine ⟨h1,fun f hf=> ?_⟩
   obtain ⟨h3,h4,h5⟩:=h2 f hf
   have h6:=zIr ht hf
   exact ⟨h3,fun y hy=>⟨h4 y hy,by have:=zLs hy; omega⟩,fun y hy=>⟨h5 y hy,by have:=zKs hy; omega⟩⟩
  constructor
  ·rw [zDv]
   unfold zof zqm
   have h1:=zQY (zjm n) a h.1 (fun t ht=>⟨(hsub t ht).1,fun f hf=>⟨((hsub t ht).2 f hf).1,fun y hy=>(hg y (((hsub t ht).2 f hf).2.1 y hy).1 (((hsub t ht).2 f hf).2.1 y hy).2).1,fun y hy=>(hg _ (((hsub t ht).2 f hf).2.2 y hy).1 (((hsub t ht).2 f hf).2.2 y hy).2).1⟩⟩)
    (Int.toNat 0+a.length+(Int.ofNat a.length).toNat +Int.toNat 0+1) 0 (by omega) (by omega)
   rw [show ((0:Nat):Int)=(0:Int) from rfl,Nat.zero_add] at h1
   rw [Wy.fin_bn,show Int.ofNat a.length=(a.length:Int) from rfl] at *
   rw [h1]; rfl
  ·rw [zHg]
   unfold zA1 zCR
   have h1:=zQg (zqU n) a h.1 (fun t ht=>⟨(hsub t ht).1,fun f hf=>⟨((hsub t ht).2 f hf).1,fun y hy=>(hg y (((hsub t ht).2 f hf).2.1 y hy).1 (((hsub t ht).2 f hf).2.1 y hy).2).2,fun y hy=>(hg _ (((hsub t ht).2 f hf).2.2 y hy).1 (((hsub t ht).2 f hf).2.2 y hy).2).2⟩⟩)
    (a.length+Int.toNat 0+Int.toNat 0+1+szTs a) 0 (by omega) (by omega)
   rw [show ((0:Nat):Int)=(0:Int) from rfl,Nat.zero_add] at h1
   rw [Wy.fin_bn,h1]; rfl
mutual
def zmy:Atom→Nat
 | ⟨k,_,a,_,i,_,_⟩=>if k=0 then 0 else 1+max (zj2 a) (zji i)
def zdJ:List Factor→Nat
 | []=>0
 | ⟨x,_⟩::r=>max (zmy x) (zdJ r)
def zbf:List Term→Nat
 | []=>0
 | ⟨_,fs⟩::r=>max (zdJ fs) (zbf r)
def zj2:List (List Term)→Nat
 | []=>0
 | a::r=>max (zbf a) (zj2 r)
def zji:List Weighted→Nat
 | []=>0
 | ⟨_,a⟩::r=>max (zbf a) (zji r)
end
theorem zvN (x:Atom):zmy x=if x.Kind=0 then 0 else 1+max (zj2 x.Args) (zji x.Items):=by cases x; rw [zmy]
theorem zu8 (f:Factor) (r:List Factor):zdJ (f::r)=max (zmy f.Atom) (zdJ r):=by cases f; rw [zdJ]
theorem zxd (t:Term) (r:List Term):zbf (t::r)=max (zdJ t.Factors) (zbf r):=by cases t; rw [zbf]
theorem zvK (a:List Term) (r:List (List Term)):zj2 (a::r)=max (zbf a) (zj2 r):=by rw [zj2]
theorem ztF (w:Weighted) (r:List Weighted):zji (w::r)=max (zbf w.Ann) (zji r):=by cases w; rw [zji]
theorem zBX:zj2 []=0:=by rw [zj2]
theorem zAl:zji []=0:=by rw [zji]
theorem zwT:zdJ []=0:=by rw [zdJ]
theorem zC9:zbf []=0:=by rw [zbf]
theorem zNc (l:List (List Term)):∀ n:Nat,l.foldl (fun s t=>max s (zbf t)) n=max n (zj2 l):=by
 induction l with
 | nil=>intro n; rw [zBX]; exact (Nat.max_zero n).symm
 | cons a r ih=>intro n; rw [List.foldl_cons,ih,zvK]; omega
theorem zLL (l:List Weighted):∀ n:Nat,l.foldl (fun s t=>max s (zbf t.Ann)) n=max n (zji l):=by
 induction l with
 | nil=>intro n; rw [zAl]; exact (Nat.max_zero n).symm
 | cons a r ih=>intro n; rw [List.foldl_cons,ih,ztF]; omega
theorem zLG (l:List (List Term)):∀ n:Nat,l.foldl (fun s t=>max s (1+zbf t)) (1+n)=1+max n (zj2 l):=by
 induction l with
 | nil=>intro n; rw [zBX]; simp
 | cons a r ih=>intro n; rw [List.foldl_cons,show max (1+n) (1+zbf a)=1+max n (zbf a) by omega,ih,zvK]; omega
theorem zKY (l:List Weighted):∀ n:Nat,l.foldl (fun s t=>max s (1+zbf t.Ann)) (1+n)=1+max n (zji l):=by
 induction l with
 | nil=>intro n; rw [zAl]; simp
 | cons a r ih=>intro n; rw [List.foldl_cons,show max (1+n) (1+zbf a.Ann)=1+max n (zbf a.Ann) by omega,ih,ztF]; omega
theorem zEu (l:List Factor):∀ n:Nat,l.foldl (fun s t=>max s (zmy t.Atom)) n=max n (zdJ l):=by
 induction l with
 | nil=>intro n; rw [zwT]; exact (Nat.max_zero n).symm
 | cons a r ih=>intro n; rw [List.foldl_cons,ih,zu8]; omega
theorem zJf (l:List Term):∀ n:Nat,l.foldl (fun s t=>max s (zdJ t.Factors)) n=max n (zbf l):=by
 induction l with
 | nil=>intro n; rw [zC9]; exact (Nat.max_zero n).symm
 | cons a r ih=>intro n; rw [List.foldl_cons,ih,zxd]; omega
theorem zF3 (a b:Nat):(if (a:Int)>(b:Int) then (a:Int) else (b:Int))=((max b a:Nat):Int):=by split <;>omega
theorem zHR {d:Nat}:∀ l:List (List Term),(∀ y∈l,zbf y≤d)→zj2 l≤d:=fun l=>by
 induction l with
 | nil=>intro _; rw [zBX]; omega
 | cons y r ih=>intro hy; rw [zvK]; have h1:=hy y (by simp); have h2:=ih fun z hz=>hy z (by simp [hz]); omega
theorem zGM {d:Nat}:∀ l:List Weighted,(∀ y∈l,zbf y.Ann≤d)→zji l≤d:=fun l=>by
 induction l with
 | nil=>intro _; rw [zAl]; omega
 | cons y r ih=>intro hy; rw [ztF]; have h1:=hy y (by simp); have h2:=ih fun z hz=>hy z (by simp [hz]); omega
theorem zJG {d:Nat}:∀ l:List Factor,(∀ y∈l,zmy y.Atom≤d)→zdJ l≤d:=fun l=>by
 induction l with
 | nil=>intro _; rw [zwT]; omega
 | cons y r ih=>intro hy; rw [zu8]; have h1:=hy y (by simp); have h2:=ih fun z hz=>hy z (by simp [hz]); omega
theorem zN3 {d:Nat}:∀ l:List Term,(∀ y∈l,zdJ y.Factors≤d)→zbf l≤d:=fun l=>by
 induction l with
 | nil=>intro _; rw [zC9]; omega
 | cons y r ih=>intro hy; rw [zxd]; have h1:=hy y (by simp); have h2:=ih fun z hz=>hy z (by simp [hz]); omega
theorem zDb:∀ (d:Nat) (a:List Term),zy d a→zbf a≤d
 | 0,a,h=>h.elim
 | d+1,a,h=>zN3 a fun t ht=>zJG _ fun f hf=>by
  obtain ⟨_,h2⟩:=zCk h ht
  obtain ⟨_,h4,h5⟩:=h2 f hf
  have q1:=zHR f.Atom.Args fun y hy=>zDb d y (h4 y hy)
  have q2:=zGM f.Atom.Items fun y hy=>zDb d y.Ann (h5 y hy)
  rw [zvN]; split <;>omega
section
variable (g:List Term→Bool×Int)
theorem zQ0 (l:List (List Term)) (hl:l.length≤1000000) (hg:∀ y∈l,g y=(true,(zbf y:Int))) (nn:Int) (t13:List Term) (t14 t15:Int) (t20:List Factor) (t21 t22:Int) (f:Factor) (fuel n:Nat) (hf:l.length<fuel):
  zrl g fuel nn n t13 t14 t15 t20 t21 t22 l l.length 0 f=(true,(nn,((max n (zj2 l):Nat):Int),t13,t14,t15,t20,t21,t22,f)):=by
 have h:=zda (W:=zjk g) (z:=default) (l:=l) (fun i (n:Nat)=>(nn,(),(n:Int),t13,t14,t15,t20,t21,t22,l,(l.length:Int),(i:Int),())) (fun _ _=>(f,())) (fun y n=>.inl (max n (zbf y))) (fun n=>(nn,(n:Int),t13,t14,t15,t20,t21,t22,f)) (fun i n=>True)
  (fun i n hi hI=>.inl ⟨_,rfl,trivial,fun H K D=>by
   show (zgx g nn n t13 t14 t15 t20 t21 t22 l l.length i f).ev H K D=_
   unfold zgx
   simp only [Wy.ev_i,Wy.ev_k,Wy.ev_h,Wy.ev_bn,Wy.ev_d,tT,hi,hg _ (zH hi),zF3]
   rw [zfh (by omega)]⟩)
  (fun n hI H K D=>by
   show (zgx g nn n t13 t14 t15 t20 t21 t22 l l.length l.length f).ev H K D=_
   unfold zgx
   simp only [Wy.ev_i,Wy.ev_k,tT,Nat.lt_irrefl]) fuel 0 n (by omega) (Nat.zero_le _) trivial
 rw [List.drop_zero,zdd,zNc] at h
 exact h
theorem zQu (l:List Weighted) (hl:l.length≤1000000) (hg:∀ y∈l,g y.Ann=(true,(zbf y.Ann:Int))) (nn:Int) (t13:List Term) (t14 t15:Int) (t20:List Factor) (t21 t22:Int) (fuel n:Nat) (hf:l.length<fuel):
  zrp g fuel nn n t13 t14 t15 t20 t21 t22 l l.length 0=(true,(nn,((max n (zji l):Nat):Int),t13,t14,t15,t20,t21,t22)):=by
 have h:=zda (W:=zi6 g) (z:=default) (l:=l) (fun i (n:Nat)=>(nn,(n:Int),t13,t14,t15,t20,t21,t22,l,(l.length:Int),(i:Int),())) (fun _ _=>()) (fun y n=>.inl (max n (zbf y.Ann))) (fun n=>(nn,(n:Int),t13,t14,t15,t20,t21,t22)) (fun i n=>True)
  (fun i n hi hI=>.inl ⟨_,rfl,trivial,fun H K D=>by
   show (zgr g nn n t13 t14 t15 t20 t21 t22 l l.length i).ev H K D=_
   unfold zgr
   simp only [Wy.ev_i,Wy.ev_k,Wy.ev_h,Wy.ev_bn,Wy.ev_d,tT,hi,hg _ (zH hi),zF3]
   rw [zfh (by omega)]⟩)
  (fun n hI H K D=>by
   show (zgr g nn n t13 t14 t15 t20 t21 t22 l l.length l.length).ev H K D=_
   unfold zgr
   simp only [Wy.ev_i,Wy.ev_k,tT,Nat.lt_irrefl]) fuel 0 n (by omega) (Nat.zero_le _) trivial
 rw [List.drop_zero,zdd,zLL] at h
 exact h
def NesG (x:Atom):Prop:=(x.Args.length≤1000000∧x.Items.length≤1000000)∧(zmy x≤1000∧(∀ y∈x.Args,zbf y≤1000)∧∀ y∈x.Items,zbf y.Ann≤1000)∧(∀ y∈x.Args,g y=(true,(zbf y:Int)))∧∀ y∈x.Items,g y.Ann=(true,(zbf y.Ann:Int))
theorem zQ8 (l:List Factor) (hl:l.length≤1000000) (hg:∀ f∈l,NesG g f.Atom) (t13:List Term) (t14 t15:Int) (fuel n:Nat) (hf:l.length<fuel):
  zsr g fuel n t13 t14 t15 l l.length 0=(true,(((max n (zdJ l):Nat):Int),t13,t14,t15)):=by
 have h:=zda (W:=zjI g) (z:=default) (l:=l) (fun i (n:Nat)=>((n:Int),t13,t14,t15,l,(l.length:Int),(i:Int),())) (fun _ _=>()) (fun y n=>.inl (max n (zmy y.Atom))) (fun n=>((n:Int),t13,t14,t15)) (fun i n=>True)
  (fun i n hi hI=>.inl ⟨_,rfl,trivial,fun H K D=>by
   obtain ⟨⟨h1,h2⟩,⟨h5,_,_⟩,h3,h4⟩:=hg _ (zH hi)
   show (zhe g n t13 t14 t15 l l.length i).ev H K D=_
   unfold zhe
   simp only [Wy.ev_i,Wy.ev_k,Wy.ev_h,Wy.ev_bn,Wy.ev_d,tT,hi,Atom.eta]
   generalize l.getD i default=f at *
   rw [zvN] at h5 ⊢
   by_cases hk:f.Atom.Kind=0
   ·have e:(f.Atom.Kind==0)=true:=by simp [hk]
    simp only [e,cond_true]
    rw [if_pos hk,Nat.max_zero,zfh (by omega)]
   ·have e:(f.Atom.Kind==0)=false:=by simp [hk]
    simp only [e,cond_false]
    rw [if_neg hk] at h5 ⊢
    have q:=fun fuel hf=>zQ0 g _ h1 h3 n t13 t14 t15 l l.length i f fuel 0 hf
    rw [Nat.zero_max,show ((0:Nat):Int)=(0:Int) from rfl] at q
    rw [q _ (by omega)]
    simp only [cond_true,Int.toNat_natCast]
    rw [zQu g _ h2 h4 n t13 t14 t15 l l.length i _ _ (by omega)]
    simp only [cond_true]
    rw [zfh (by omega),show (1:Int)=((1:Nat):Int) from rfl,zmS (n:=1) (by omega),zF3]⟩)
  (fun n hI H K D=>by
   show (zhe g n t13 t14 t15 l l.length l.length).ev H K D=_
   unfold zhe
   simp only [Wy.ev_i,Wy.ev_k,tT,Nat.lt_irrefl]) fuel 0 n (by omega) (Nat.zero_le _) trivial
 rw [List.drop_zero,zdd,zEu] at h
 exact h
theorem zRo (l:List Term) (hl:l.length≤1000000) (hg:∀ t∈l,t.Factors.length≤1000000∧∀ f∈t.Factors,NesG g f.Atom) (fuel n:Nat) (hf:l.length<fuel):
  zsz g fuel n l l.length 0=(true,((max n (zbf l):Nat):Int)):=by
 have h:=zda (W:=zjG g) (z:=default) (l:=l) (fun i (n:Nat)=>((n:Int),l,(l.length:Int),(i:Int),())) (fun _ _=>()) (fun y n=>.inl (max n (zdJ y.Factors))) (fun n=>(n:Int)) (fun i n=>True)
  (fun i n hi hI=>.inl ⟨_,rfl,trivial,fun H K D=>by
   obtain ⟨h1,h3⟩:=hg _ (zH hi)
   show (zhv g n l l.length i).ev H K D=_
   unfold zhv
   simp only [Wy.ev_i,Wy.ev_k,Wy.ev_h,Wy.ev_bn,Wy.ev_d,tT,hi,Atom.eta]
   rw [zQ8 g _ h1 h3 _ _ _ _ _ (by omega)]
   simp only [cond_true]
   rw [zfh (by omega)]⟩)
  (fun n hI H K D=>by
   show (zhv g n l l.length l.length).ev H K D=_
   unfold zhv
   simp only [Wy.ev_i,Wy.ev_k,tT,Nat.lt_irrefl]) fuel 0 n (by omega) (Nat.zero_le _) trivial
 rw [List.drop_zero,zdd,zJf] at h
 exact h
theorem zPH (x:Atom) (hx:NesG g x) (a:List Term) (most i k:Int) (fuel n:Nat) (hf:x.Args.length<fuel):
  zqg g fuel a most i k ((1+n:Nat):Int) 0 x=(true,(a,most,i,k,((1+max n (zj2 x.Args):Nat):Int),x)):=by
 obtain ⟨⟨h1,h2⟩,⟨h5,h6,h7⟩,h3,h4⟩:=hx
 have h:=zda (W:=zv8 g) (z:=default) (l:=x.Args) (fun j (n:Nat)=>(a,most,i,k,(),(n:Int),(j:Int),())) (fun _ _=>(x,())) (fun y n=>.inl (max n (1+zbf y))) (fun n=>(a,most,i,k,(n:Int),x)) (fun i n=>True)
  (fun j n hi hI=>.inl ⟨_,rfl,trivial,fun H K D=>by
   have h8:=h6 _ (zH hi)
   show (zjU g a most i k n j x).ev H K D=_
   unfold zjU
   simp only [Wy.ev_i,Wy.ev_k,Wy.ev_h,Wy.ev_bn,Wy.ev_d,tT,hi,h3 _ (zH hi)]
   rw [zfh (by omega),show (1:Int)=((1:Nat):Int) from rfl,zmS (n:=1) (by omega),zF3]⟩)
  (fun n hI H K D=>by
   show (zjU g a most i k n x.Args.length x).ev H K D=_
   unfold zjU
   simp only [Wy.ev_i,Wy.ev_k,tT,Nat.lt_irrefl]) fuel 0 (1+n) (by omega) (Nat.zero_le _) trivial
 rw [List.drop_zero,zdd,zLG] at h
 exact h
theorem zPZ (x:Atom) (hx:NesG g x) (a:List Term) (most i k:Int) (fuel n:Nat) (hf:x.Items.length<fuel):
  zv6 g fuel a most i k ((1+n:Nat):Int) 0 x=(true,(a,most,i,k,((1+max n (zji x.Items):Nat):Int))):=by
 obtain ⟨⟨h1,h2⟩,⟨h5,h6,h7⟩,h3,h4⟩:=hx
 have h:=zda (W:=zv7 g) (z:=default) (l:=x.Items) (fun j (n:Nat)=>(a,most,i,k,(),(n:Int),(j:Int),())) (fun _ _=>(x,())) (fun y n=>.inl (max n (1+zbf y.Ann))) (fun n=>(a,most,i,k,(n:Int))) (fun i n=>True)
  (fun j n hi hI=>.inl ⟨_,rfl,trivial,fun H K D=>by
   have h8:=h7 _ (zH hi)
   show (zj0 g a most i k n j x).ev H K D=_
   unfold zj0
   simp only [Wy.ev_i,Wy.ev_k,Wy.ev_h,Wy.ev_bn,Wy.ev_d,tT,hi,h4 _ (zH hi)]
   rw [zfh (by omega),show (1:Int)=((1:Nat):Int) from rfl,zmS (n:=1) (by omega),zF3]⟩)
  (fun n hI H K D=>by
   show (zj0 g a most i k n x.Items.length x).ev H K D=_
   unfold zj0
   simp only [Wy.ev_i,Wy.ev_k,tT,Nat.lt_irrefl]) fuel 0 (1+n) (by omega) (Nat.zero_le _) trivial
 rw [List.drop_zero,zdd,zKY] at h
 exact h
theorem RNes_12' (x:Atom) (hx:NesG g x) (a:List Term) (most i k:Int) (fuel:Nat) (hf:x.Args.length<fuel):zqg g fuel a most i k 1 0 x=(true,(a,most,i,k,((1+zj2 x.Args:Nat):Int),x)):=by
 have h:=zPH g x hx a most i k fuel 0 hf
 rw [Nat.zero_max] at h; exact h
theorem zQI (a:List Term) (i:Nat) (hi:i<a.length) (hla:a.length≤1000000) (l:List Factor) (el:(a.getD i default).Factors=l) (hl:l.length≤1000000) (hg:∀ f∈l,NesG g f.Atom) (fuel n:Nat) (hf:l.length<fuel):
  zxN g fuel a n i 0=(true,(a,((max n (zdJ l):Nat):Int),(i:Int))):=by
 have h:=zda (W:=zxU g) (z:=default) (l:=l) (fun k (n:Nat)=>(a,(n:Int),(i:Int),(k:Int),())) (fun _ _=>()) (fun y n=>.inl (max n (zmy y.Atom))) (fun n=>(a,(n:Int),(i:Int))) (fun k n=>True)
  (fun k n hk hI=>.inl ⟨_,rfl,trivial,fun H K D=>by
   have hx:=hg _ (zH hk)
   have h5:=hx.2.1.1
   show (zkJ g a n i k).ev H K D=_
   unfold zkJ
   simp only [Wy.ev_i,Wy.ev_k,Wy.ev_h,Wy.ev_bn,Wy.ev_d,tT,hi,el,hk,Atom.eta]
   generalize l.getD k default=f at *
   rw [zvN] at h5 ⊢
   by_cases hz:f.Atom.Kind=0
   ·have e:(f.Atom.Kind==0)=true:=by simp [hz]
    simp only [e,cond_true]
    rw [if_pos hz,Nat.max_zero,zfh (by omega)]
   ·have e:(f.Atom.Kind==0)=false:=by simp [hz]
    have hx1:=hx.1
    simp only [e,cond_false]
    rw [if_neg hz] at h5 ⊢
    rw [RNes_12' g _ hx _ _ _ _ _ (by omega)]
    simp only [cond_true,Int.toNat_natCast,Atom.eta]
    rw [zPZ g _ hx _ _ _ _ _ _ (by omega)]
    simp only [cond_true]
    rw [zfh (by omega),zF3]⟩)
  (fun n hI H K D=>by
   show (zkJ g a n i l.length).ev H K D=_
   unfold zkJ
   simp only [Wy.ev_i,Wy.ev_k,tT,hi,el,Nat.lt_irrefl]) fuel 0 n (by omega) (Nat.zero_le _) trivial
 rw [List.drop_zero,zdd,zEu] at h
 exact h
theorem zQX (l:List Term) (hl:l.length≤1000000) (hg:∀ t∈l,t.Factors.length≤1000000∧∀ f∈t.Factors,NesG g f.Atom) (fuel n:Nat) (hf:l.length<fuel):
  zxF g fuel l n 0=(true,((max n (zbf l):Nat):Int)):=by
 have h:=zda (W:=zxh g) (z:=default) (l:=l) (fun i (n:Nat)=>(l,(n:Int),(i:Int),())) (fun _ _=>()) (fun y n=>.inl (max n (zdJ y.Factors))) (fun n=>(n:Int)) (fun i n=>True)
  (fun i n hi hI=>.inl ⟨_,rfl,trivial,fun H K D=>by
   obtain ⟨h1,h3⟩:=hg _ (zH hi)
   have hz:=zAo l i hi
   show (zkD g l n i).ev H K D=_
   unfold zkD
   simp only [Wy.ev_i,Wy.ev_k,Wy.ev_h,Wy.ev_bn,Wy.ev_d,tT,hi,Atom.eta]
   rw [zQI g l i hi hl _ rfl h1 h3 _ _ (by omega)]
   simp only [cond_true]
   rw [zfh (by omega)]⟩)
  (fun n hI H K D=>by
   show (zkD g l n l.length).ev H K D=_
   unfold zkD
   simp only [Wy.ev_i,Wy.ev_k,tT,Nat.lt_irrefl]) fuel 0 n (by omega) (Nat.zero_le _) trivial
 rw [List.drop_zero,zdd,zJf] at h
 exact h
end
theorem zIH:∀ (n d:Nat) (a:List Term),zy d a→d≤n→d≤100→zeY n a=(true,(zbf a:Int))∧zkW n a=(true,(zbf a:Int))
 | n,0,a,h,hd,hs=>h.elim
 | 0,d+1,a,h,hd,hs=>by omega
 | n+1,d+1,a,h,hd,hs=>by
  have hg:=fun y (hy:zy d y)=>zIH n d y hy (by omega) (by omega)
  have hsub:∀ t∈a,t.Factors.length≤1000000∧∀ f∈t.Factors,NesG (zeY n) f.Atom∧NesG (zkW n) f.Atom:=fun t ht=>by
   obtain ⟨h1,h2⟩:=zCk h ht
   refine ⟨h1,fun f hf=> ?_⟩
   obtain ⟨h3,h4,h5⟩:=h2 f hf
   have q1:∀ y∈f.Atom.Args,zbf y≤d:=fun y hy=>zDb d y (h4 y hy)
   have q2:∀ y∈f.Atom.Items,zbf y.Ann≤d:=fun y hy=>zDb d y.Ann (h5 y hy)
   have q3:zmy f.Atom≤1000:=by
    have r1:=zHR _ q1; have r2:=zGM _ q2
    rw [zvN]; split <;>omega
   have q4:zmy f.Atom≤1000∧(∀ y∈f.Atom.Args,zbf y≤1000)∧∀ y∈f.Atom.Items,zbf y.Ann≤1000:=⟨q3,fun y hy=>by have:=q1 y hy; omega,fun y hy=>by have:=q2 y hy; omega⟩
   exact ⟨⟨h3,q4,fun y hy=>(hg y (h4 y hy)).1,fun y hy=>(hg _ (h5 y hy)).1⟩,⟨h3,q4,fun y hy=>(hg y (h4 y hy)).2,fun y hy=>(hg _ (h5 y hy)).2⟩⟩
  constructor
  ·rw [zA6]
   unfold zl4 znU
   have h1:=zRo (zeY n) a h.1 (fun t ht=>⟨(hsub t ht).1,fun f hf=>((hsub t ht).2 f hf).1⟩) (Int.toNat 0+a.length+(Int.ofNat a.length).toNat +Int.toNat 0+1) 0 (by omega)
   rw [show ((0:Nat):Int)=(0:Int) from rfl,Nat.zero_max] at h1
   rw [Wy.fin_bn,show Int.ofNat a.length=(a.length:Int) from rfl] at *
   rw [h1]; rfl
  ·rw [zEV]
   unfold zva zzf
   have h1:=zQX (zkW n) a h.1 (fun t ht=>⟨(hsub t ht).1,fun f hf=>((hsub t ht).2 f hf).2⟩) (a.length+Int.toNat 0+Int.toNat 0+1+szTs a) 0 (by omega)
   rw [show ((0:Nat):Int)=(0:Int) from rfl,Nat.zero_max] at h1
   rw [Wy.fin_bn,h1]; rfl
theorem zq4 (x y:Int):zdY x y=(true,cmpI x y):=by
 unfold zdY zsT znq zu6 cmpI
 by_cases h1:x<y
 ·simp [h1,Wy.fin_i,Wy.fin_k]
 ·by_cases h2:y<x <;>simp [h1,h2,Wy.fin_i,Wy.fin_k]
theorem zvz (x y:Int):zhF x y=(true,cmpI x y):=by
 unfold zhF zql zkT zsR cmpI
 by_cases h1:x<y
 ·simp [h1,Wy.fin_i,Wy.fin_k]
 ·by_cases h2:y<x <;>simp [h1,h2,Wy.fin_i,Wy.fin_k]
def zoM:List Int→Int
 | []=>0
 | x::r=>if x=0 then zoM r else x
theorem zMc (l:List Int) (hl:l.length≤1000000):∀ (n i:Nat),l.length<i+n→i≤l.length→∃ r,zyz n 0 l l.length i=(true,r)∧(r=.inl (zoM (l.drop i))∨(r=.inr 0∧zoM (l.drop i)=0))
 | 0,i,h,h2=>by omega
 | n+1,i,h,h2=>by
  show ∃ r,(zyB 0 l l.length i).ev (fun x y=>zyz n x.1 x.2.1 x.2.2.1 x.2.2.2.1) (fun r=>(true,r)) (false,.inl default)=(true,r)∧_
  unfold zyB
  by_cases hi:i<l.length
  ·simp only [Wy.ev_i,Wy.ev_k,Wy.ev_h,Int.ofNat_eq_natCast,zAH,zfj,decide_true,decide_false,Bool.and_self,Bool.true_and,Bool.and_true,cond_true,cond_false,Int.toNat_natCast,Bool.not_true,Bool.not_false,hi]
   obtain ⟨r,h1,h3⟩:=zMc l hl n (i+1) (by omega) (by omega)
   rw [zbF hi,zbb (by omega),h1]
   generalize l.getD i default=x
   by_cases hx:x=0
   ·have e:(x != 0)=false:=by simp [hx]
    simp only [e,cond_false,zoM,hx,if_true]
    exact ⟨r,rfl,h3⟩
   ·have e:(x != 0)=true:=by simp [hx]
    simp only [e,cond_true,zoM,hx,if_false]
    exact ⟨_,rfl,.inl rfl⟩
  ·simp only [Wy.ev_i,Wy.ev_k,Wy.ev_h,Int.ofNat_eq_natCast,zAH,zfj,decide_true,decide_false,Bool.and_self,Bool.true_and,Bool.and_true,cond_true,cond_false,Int.toNat_natCast,Bool.not_true,Bool.not_false,hi,zeR hi]
   exact ⟨_,rfl,.inr ⟨rfl,rfl⟩⟩
theorem zpI (l:List Int) (hl:l.length≤1000000):zlO l=(true,zoM l):=by
 unfold zlO zAn
 obtain ⟨r,h1,h2⟩:=zMc l hl (Int.toNat 0+l.length+(Int.ofNat l.length).toNat +Int.toNat 0+1) 0 (by simp; omega) (by omega)
 rw [show ((0:Nat):Int)=(0:Int) from rfl] at h1
 rw [Wy.fin_bn,show Int.ofNat l.length=(l.length:Int) from rfl] at *
 rw [h1]
 rw [List.drop_zero] at h2
 rcases h2 with rfl | ⟨rfl,h2⟩
 ·rfl
 ·rw [h2]; rfl
section
variable {α:Type}
def lexG (c:α→α→Int):List α→List α→Int
 | [],[]=>0
 | [],_::_=> -1
 | _::_,[]=>1
 | x::a,y::b=>if c x y=0 then lexG c a b else c x y
theorem zBQ (e:α→TT) {c:α→α→Int}:∀ (a b:List α),(∀ x∈a,∀ y∈b,c x y=cmpT (e x) (e y))→lexG c a b=cmpL (a.map e) (b.map e)
 | [],[],_=>by simp only [lexG,List.map,cmpL]
 | [],_::_,_=>by simp only [lexG,List.map,cmpL]
 | _::_,[],_=>by simp only [lexG,List.map,cmpL]
 | x::a,y::b,h=>by
  simp only [lexG,List.map,cmpL]
  rw [h x (by simp) y (by simp),zBQ e a b fun x hx y hy=>h x (by simp [hx]) y (by simp [hy])]
variable [Inhabited α]
def zJ2 (g:α→α→Bool×Int) (s1:List α) (s2:List α) (t11:List α) (t12:Int) (t13:Int):Wy (List α×List α×Unit×List α×Int×Int×Unit) (Unit) (Int⊕(List α×List α)):=.i (decide (t13<t12)) (.i (decide ((0:Int)≤t13)&&decide (t13<Int.ofNat t11.length)) (.i (decide (t13≥Int.ofNat s2.length)) (.k (.inl (1:Int))) (.i (decide ((0:Int)≤t13)&&decide (t13<Int.ofNat s2.length)) (.bn (g (t11.getD t13.toNat default) (s2.getD t13.toNat default)) fun r0=>.i (r0 != (0:Int)) (.k (.inl (r0))) (.h (s1,s2,(),t11,t12,(IntKind.i64.wrap (t13+(1:Int))),()) ())) .d)) .d) (.k (.inr (s1,s2)))
def zMZ (g:α→α→Bool×Int) (x:List α×List α×Unit×List α×Int×Int×Unit) (y:Unit):Wy (List α×List α×Unit×List α×Int×Int×Unit) (Unit) (Int⊕(List α×List α)):=zJ2 g x.1 x.2.1 x.2.2.2.1 x.2.2.2.2.1 x.2.2.2.2.2.1
def zML (g:α→α→Bool×Int) (n:Nat) (s1:List α) (s2:List α) (t11:List α) (t12:Int) (t13:Int):Bool×(Int⊕(List α×List α)):=zN (zMZ g) (.inl default) n (s1,s2,(),t11,t12,t13,()) ()
def CF (g:α→α→Bool×Int) (s1 s2:List α):Bool×Int:=(.bn (zML g (s1.length+s2.length+s1.length+(Int.ofNat s1.length).toNat +Int.toNat (0:Int)+(1:Nat)) s1 s2 s1 (Int.ofNat s1.length) (0:Int)) fun r2=>.i (isL r2) (.k (getL r2)) (.i (decide (Int.ofNat (getR r2).fst.length<Int.ofNat (getR r2).snd.length)) (.k (-1:Int)) (.k (0:Int))):Wy0 Int).fin default
theorem zMi (g:α→α→Bool×Int) (c:α→α→Int) (a b:List α) (ha:a.length≤1000000) (hg:∀ x∈a,∀ y∈b,g x y=(true,c x y)):∀ (n i:Nat),a.length<i+n→i≤a.length→i≤b.length→
  ∃ r,zML g n a b a a.length i=(true,r)∧((r=.inl (lexG c (a.drop i) (b.drop i)))∨(r=.inr (a,b)∧lexG c (a.drop i) (b.drop i)=if a.length<b.length then -1 else 0))
 | 0,i,h,h2,h3=>by omega
 | n+1,i,h,h2,h3=>by
  show ∃ r,(zJ2 g a b a a.length i).ev (fun x y=>zML g n x.1 x.2.1 x.2.2.2.1 x.2.2.2.2.1 x.2.2.2.2.2.1) (fun r=>(true,r)) (false,.inl default)=(true,r)∧_
  unfold zJ2
  by_cases hi:i<a.length
  ·by_cases hi':i<b.length
   ·have hg':¬ b.length≤i:=by omega
    simp only [Wy.ev_i,Wy.ev_k,Wy.ev_h,Wy.ev_bn,Wy.ev_d,Int.ofNat_eq_natCast,zAH,zfj,decide_true,decide_false,Bool.and_self,Bool.true_and,Bool.and_true,cond_true,cond_false,Int.toNat_natCast,Bool.not_true,Bool.not_false,hi,hi',zOh,hg',hg _ (zH hi) _ (zH hi')]
    rw [zbF hi,zbF hi',zbb (by omega)]
    simp only [lexG]
    generalize c (a.getD i default) (b.getD i default)=z
    by_cases hx:z=0
    ·have e:(z != 0)=false:=by simp [hx]
     simp only [e,cond_false,hx,if_true]
     exact zMi g c a b ha hg n (i+1) (by omega) (by omega) (by omega)
    ·have e:(z != 0)=true:=by simp [hx]
     simp only [e,cond_true,hx,if_false]
     exact ⟨_,rfl,.inl rfl⟩
   ·have hg':b.length≤i:=by omega
    simp only [Wy.ev_i,Wy.ev_k,Wy.ev_h,Wy.ev_bn,Wy.ev_d,Int.ofNat_eq_natCast,zAH,zfj,decide_true,decide_false,Bool.and_self,Bool.true_and,Bool.and_true,cond_true,cond_false,Int.toNat_natCast,Bool.not_true,Bool.not_false,hi,zOh,hg']
    refine ⟨_,rfl,.inl ?_⟩
    rw [zbF hi,zeR hi']; rfl
  ·simp only [Wy.ev_i,Wy.ev_k,Wy.ev_h,Wy.ev_bn,Wy.ev_d,Int.ofNat_eq_natCast,zAH,zfj,decide_true,decide_false,Bool.and_self,Bool.true_and,Bool.and_true,cond_true,cond_false,Int.toNat_natCast,Bool.not_true,Bool.not_false,hi]
   refine ⟨_,rfl,.inr ⟨rfl, ?_⟩⟩
   rw [zeR hi]
   by_cases hi':i<b.length
   ·rw [zbF hi',if_pos (by omega)]; rfl
   ·rw [zeR hi',if_neg (by omega)]; rfl
theorem zRg (g:α→α→Bool×Int) (c:α→α→Int) (a b:List α) (ha:a.length≤1000000) (hg:∀ x∈a,∀ y∈b,g x y=(true,c x y)):CF g a b=(true,lexG c a b):=by
 unfold CF
 obtain ⟨r,h1,h2⟩:=zMi g c a b ha hg (a.length+b.length+a.length+(Int.ofNat a.length).toNat +Int.toNat 0+1) 0 (by simp; omega) (by omega) (by omega)
 rw [show ((0:Nat):Int)=(0:Int) from rfl] at h1
 rw [Wy.fin_bn,show Int.ofNat a.length=(a.length:Int) from rfl] at *
 rw [h1]
 simp only [List.drop_zero] at h2
 rcases h2 with rfl | ⟨rfl,h2⟩
 ·rfl
 ·rw [h2]
  simp only [Wy.fin_i,Wy.fin_k,Int.ofNat_eq_natCast,zAH,zfj,decide_true,decide_false,Bool.and_self,Bool.true_and,Bool.and_true,cond_true,cond_false,Int.toNat_natCast,Bool.not_true,Bool.not_false,isL,getR]
  by_cases h3:a.length<b.length <;>simp [h3]
end
theorem zFY {α:Type} [Inhabited α] (e:α→TT) (g:α→α→Bool×Int) (a b:List α) (ha:a.length≤1000000) (hg:∀ x∈a,∀ y∈b,g x y=(true,cmpT (e x) (e y))):CF g a b=(true,cmpL (a.map e) (b.map e)):=by
 rw [zRg g (fun x y=>cmpT (e x) (e y)) a b ha hg,zBQ e a b fun _ _ _ _=>rfl]
theorem Factor.eta2 (x:Factor):(FactorOf.mk (Atom.mk x.Atom.Kind x.Atom.Row x.Atom.Args x.Atom.Func x.Atom.Items x.Atom.Op x.Atom.Bound) x.Exp:Factor)=x:=by rw [Atom.eta]
theorem zO8 (g):zbs g=CF g:=rfl
theorem zMT (g):zbd g=CF g:=by
 have h:zZ g=zMZ g:=by
  funext x y
  unfold zZ zdb zMZ zJ2
  rw [Factor.eta2,Factor.eta2]
 funext a b
 unfold zbd zbZ zdc
 rw [h]; rfl
theorem zQl (g):z7 g=CF g:=rfl
theorem zPd (g):zbj g=CF g:=rfl
theorem zzV (a b:Value):znr a b=(true,cmpT (trV a) (trV b)):=by
 unfold znr zuX
 have h:(strings_Compare a.Text b.Text).2=cmpT (trB a.Text) (trB b.Text):=by rw [← zMk]; rfl
 simp only [zq4,zvz,Wy.fin_bn,cond_true,h]
 rw [zpI _ (by simp)]
 simp only [Wy.fin_k,cond_true,trV,cmpT,cmpL,zoM]
 rfl
theorem zCZ:∀ n,
  (∀ d a b,zy d a→10*d≤n→zeV n a b=(true,cmpL (zcG a) (zcG b)))∧
  (∀ d a b,zy d a→10*d≤n+1→zbt n a b=(true,cmpL (zcG a) (zcG b)))∧
  (∀ d x y,zfm (zy d) x.Factors→10*d+10≤n+2→zhA n x y=(true,cmpT (zrL x) (zrL y)))∧
  (∀ d x y,zfm (zy d) x.Factors→10*d+10≤n+3→zfQ n x y=(true,cmpL (zbo x.Factors) (zbo y.Factors)))∧
  (∀ d l l',zfm (zy d) l→10*d+10≤n+4→zbw n l l'=(true,cmpL (zbo l) (zbo l')))∧
  (∀ d x y,zc8 (zy d) x.Atom→10*d+10≤n+5→zeM n x y=(true,cmpT (zmW x) (zmW y)))∧
  (∀ d x y,zc8 (zy d) x→10*d+10≤n+6→zf0 n x y=(true,cmpT (zds x) (zds y)))∧
  (∀ d a b,a.length≤1000000→(∀ x∈a,zy d x)→10*d+10≤n+7→z8 n a b=(true,cmpL (zp7 a) (zp7 b)))∧
  (∀ d a b,a.length≤1000000→(∀ x∈a,zy d x.Ann)→10*d+10≤n+7→zbi n a b=(true,cmpL (zf5 a) (zf5 b)))∧
  (∀ d x y,zy d x.Ann→10*d+10≤n+8→zd8 n x y=(true,cmpT (ze6 x) (ze6 y)))
 | 0=>by
  refine ⟨?_, ?_, ?_, ?_, ?_, ?_, ?_, ?_, ?_, ?_⟩
  ·intro d a b h hd; have:d=0:=by omega
   subst this; exact h.elim
  ·intro d a b h hd; have:d=0:=by omega
   subst this; exact h.elim
  all_goals (intros; omega)
 | n+1=>by
  obtain ⟨h1,h2,h3,h4,h5,h6,h7,h8,h9,h10⟩:=zCZ n
  refine ⟨?_, ?_, ?_, ?_, ?_, ?_, ?_, ?_, ?_, ?_⟩
  ·intro d a b h hd
   rw [zBl]
   unfold zlS znW
   rw [Wy.fin_bn,h2 d a b h (by omega)]; rfl
  ·intro d a b h hd
   cases d with
   | zero=>exact h.elim
   | succ d=>
    rw [zgS,zO8,zxu,zxu]
    exact zFY zrL _ a b h.1 fun x hx y hy=>h3 d x y (h.2 x hx) (by omega)
  ·intro d x y h hd
   rw [zyy]
   unfold zjH zl3
   rw [Wy.fin_bn,h4 d x y h (by omega)]
   simp only [cond_true,Wy.fin_bn,zvz]
   rw [zpI _ (by simp)]
   obtain ⟨c,l⟩:=x; obtain ⟨c',l'⟩:=y
   simp only [cond_true,Wy.fin_k,zoM,zrL,cmpT,cmpL]
   rfl
  ·intro d x y h hd
   rw [zwG]
   unfold ziE zkv
   rw [Wy.fin_bn,h5 d _ _ h (by omega)]; rfl
  ·intro d l l' h hd
   rw [zhz,zMT,zpP,zpP]
   exact zFY zmW _ l l' h.1 fun x hx y hy=>h6 d x y (h.2 x hx) (by omega)
  ·intro d x y h hd
   rw [zvq]
   unfold zhP zjD
   rw [Atom.eta,Atom.eta,Wy.fin_bn,h7 d _ _ h (by omega)]
   simp only [cond_true,Wy.fin_bn,zq4]
   rw [zpI _ (by simp)]
   obtain ⟨c,l⟩:=x; obtain ⟨c',l'⟩:=y
   simp only [cond_true,Wy.fin_k,zoM,zmW,cmpT,cmpL]
   rfl
  ·intro d x y h hd
   rw [zwR]
   unfold ziD zkH
   simp only [cond_true,Wy.fin_bn,zq4,zzV,h8 d x.Args y.Args h.1.1 h.2.1 (by omega),h9 d x.Items y.Items h.1.2.1 (fun w hw=>(h.2.2 w hw).2) (by omega)]
   rw [zpI _ (by simp)]
   obtain ⟨k,r,a,f,i,o,v⟩:=x; obtain ⟨k',r',a',f',i',o',v'⟩:=y
   simp only [cond_true,Wy.fin_k,zoM,zds,cmpT,cmpL]
   rfl
  ·intro d a b h0 h hd
   rw [zej,zQl,zu1,zu1]
   exact zFY (fun x=>TT.l (zcG x)) _ a b h0 fun x hx y hy=>by rw [h1 d x y (h x hx) (by omega)]; simp only [cmpT]
  ·intro d a b h0 h hd
   rw [zfk,zPd,zn1,zn1]
   exact zFY ze6 _ a b h0 fun x hx y hy=>h10 d x y (h x hx) (by omega)
  ·intro d x y h hd
   rw [zw0]
   unfold ziG zkM
   simp only [cond_true,Wy.fin_bn,zzV,h1 d _ _ h (by omega)]
   rw [zpI _ (by simp)]
   obtain ⟨c,l⟩:=x; obtain ⟨c',l'⟩:=y
   simp only [cond_true,Wy.fin_k,zoM,ze6,cmpT,cmpL]
   rfl
theorem zCW {d:Nat} {a:List Term} (h:zy d a) (hd:d≤100) (b:List Term):zrP a b=(true,cmpL (zcG a) (zcG b)):=(zCZ 1000).1 d a b h (by omega)
theorem zpW {d:Nat} {x:Term} (h:zfm (zy d) x.Factors) (hd:d≤99) (y:Term):zbz x y=(true,cmpL (zbo x.Factors) (zbo y.Factors)):=(zCZ 1000).2.2.2.1 d x y h (by omega)
theorem zpV {d:Nat} {x:Atom} (h:zc8 (zy d) x) (hd:d≤99) (y:Atom):zhf x y=(true,cmpT (zds x) (zds y)):=(zCZ 1000).2.2.2.2.2.2.1 d x y h (by omega)
theorem zyQ {d:Nat} {x:Weighted} (h:zy d x.Ann) (hd:d≤99) (y:Weighted):zbl x y=(true,cmpT (ze6 x) (ze6 y)):=(zCZ 1000).2.2.2.2.2.2.2.2.2 d x y h (by omega)
theorem zqh {d:Nat} {a:List Term} (h:zy d a) (hd:d≤100) (b:List Term):zca a b=(true,decide (a=b)):=by
 unfold zca zrc
 rw [Wy.fin_bn,zCW h hd]
 simp only [cond_true,Wy.fin_k]
 congr 1
 by_cases e:a=b
 ·subst e; rw [zE2]; simp
 ·have:cmpL (zcG a) (zcG b)≠0:=fun h=>e (zx9 _ _ (zzN _ _ h))
  simp [e,this]
def zCD (a:Int) (b:Int):Wy0 (Int):=.i (decide (a<b)) (.k (-1:Int)) (.i (decide (a>b)) (.k 1) (.k 0))
def zcQ (a:Int) (b:Int):Bool×Int:=(zCD a b).fin default
abbrev ztQ:=List Term×List Term×Int×Unit
abbrev ttTref05Compare1:=Int⊕(List Term×List Term)
def zFp (zcM:List Factor→List Factor→Bool×Int) (a:List Term) (b:List Term) (i:Int):Wy ztQ (Unit) ttTref05Compare1:=.i (decide (i<Int.ofNat a.length)) (.i (decide (i<Int.ofNat b.length)) (.i (decide (0≤i)&&decide (i<Int.ofNat a.length)) (.i (decide (0≤i)&&decide (i<Int.ofNat b.length)) (.bn (zcM (a.getD i.toNat default).Factors (b.getD i.toNat default).Factors) fun r1=>.i (r1 != 0) (.k (.inl (r1))) (.i (decide (0≤i)&&decide (i<Int.ofNat a.length)) (.i (decide (0≤i)&&decide (i<Int.ofNat b.length)) (.bn (zcQ (a.getD i.toNat default).Coeff (b.getD i.toNat default).Coeff) fun r0=>.i (r0 != 0) (.k (.inl (r0))) (.h (a,b,(IntKind.i64.wrap (i+1)),()) ())) .d) .d)) .d) .d) (.k (.inr (a,b)))) (.k (.inr (a,b)))
def zFI (zcM:List Factor→List Factor→Bool×Int) (x:ztQ) (y:Unit):Wy ztQ (Unit) ttTref05Compare1:=zFp zcM x.1 x.2.1 x.2.2.1
def zE6 (zcM:List Factor→List Factor→Bool×Int) (n:Nat) (a:List Term) (b:List Term) (i:Int):Bool×ttTref05Compare1:=zN (zFI zcM) (.inl default) n (a,b,i,()) ()
def zGe (zcM:List Factor→List Factor→Bool×Int) (a:List Term) (b:List Term):Wy0 (Int):=.bn (zE6 zcM (a.length+b.length+Int.toNat 0+1) a b 0) fun r5=>.i (isL r5) (.k (getL r5)) (.bn (zcQ (Int.ofNat (getR r5).1.length) (Int.ofNat (getR r5).2.length)) fun r4=>.k r4)
def zvG (zcM:List Factor→List Factor→Bool×Int) (a:List Term) (b:List Term):Bool×Int:=(zGe zcM a b).fin default
def zEO (less:Bool):Wy0 (Int):=.i (less) (.k (-1:Int)) (.k 1)
def zzv (less:Bool):Bool×Int:=(zEO less).fin default
def zBP (a:Value) (b:Value):Wy0 (Int):=.i (a.Kind != b.Kind) (.bn (zzv (decide (a.Kind<b.Kind))) fun r0=>.k r0) (.i (a.Int != b.Int) (.bn (zzv (decide (a.Int<b.Int))) fun r1=>.k r1) (.i (!a.Text.toList==b.Text.toList) (.bn (zzv (Op.bytesLess a.Text.toList b.Text.toList)) fun r2=>.k r2) (.k 0)))
def zp0 (a:Value) (b:Value):Bool×Int:=(zBP a b).fin default
def zxq (a:RowID) (b:RowID):Wy0 (Int):=.bn (zcQ a.Table b.Table) fun r1=>.i (r1 != 0) (.k r1) (.bn (zcQ a.Seq b.Seq) fun r0=>.k r0)
def ztS (a:RowID) (b:RowID):Bool×Int:=(zxq a b).fin default
abbrev zpx:=Unit×Unit×Int×Unit
abbrev zpB:=Atom×Atom×Unit
abbrev ttTref05CompareAtom2:=Int⊕(Atom×Atom)
def znY (zdp:List Weighted→List Weighted→Bool×Int) (zbH:List Term→List Term→Bool×Int) (i:Int) (a:Atom) (b:Atom):Wy zpx zpB ttTref05CompareAtom2:=.i (decide (i<Int.ofNat a.Args.length)) (.i (decide (i<Int.ofNat b.Args.length)) (.i (decide (0≤i)&&decide (i<Int.ofNat a.Args.length)) (.i (decide (0≤i)&&decide (i<Int.ofNat b.Args.length)) (.bn (zbH (a.Args.getD i.toNat default) (b.Args.getD i.toNat default)) fun r0=>.i (r0 != 0) (.k (.inl (r0))) (.h ((),(),(IntKind.i64.wrap (i+1)),()) (a,b,()))) .d) .d) (.k (.inr (a,b)))) (.k (.inr (a,b)))
def zBY (zdp:List Weighted→List Weighted→Bool×Int) (zbH:List Term→List Term→Bool×Int) (x:zpx) (y:zpB):Wy zpx zpB ttTref05CompareAtom2:=znY zdp zbH x.2.2.1 y.1 y.2.1
def zn0 (zdp:List Weighted→List Weighted→Bool×Int) (zbH:List Term→List Term→Bool×Int) (n:Nat) (i:Int) (a:Atom) (b:Atom):Bool×ttTref05CompareAtom2:=zN (zBY zdp zbH) (.inl default) n ((),(),i,()) (a,b,())
def zuA (zdp:List Weighted→List Weighted→Bool×Int) (zbH:List Term→List Term→Bool×Int) (a:Atom) (b:Atom):Wy0 (Int):=.bn (zcQ a.Kind b.Kind) fun r9=>.i (r9 != 0) (.k r9) (.bn (ztS a.Row b.Row) fun r8=>.i (r8 != 0) (.k r8) (.bn (zn0 zdp zbH ((Int.toNat 0+1)+(Atom.mk a.Kind a.Row a.Args a.Func a.Items a.Op a.Bound).Args.length+(Atom.mk a.Kind a.Row a.Args a.Func a.Items a.Op a.Bound).Items.length+(Atom.mk b.Kind b.Row b.Args b.Func b.Items b.Op b.Bound).Args.length+(Atom.mk b.Kind b.Row b.Args b.Func b.Items b.Op b.Bound).Items.length) 0 (Atom.mk a.Kind a.Row a.Args a.Func a.Items a.Op a.Bound) (Atom.mk b.Kind b.Row b.Args b.Func b.Items b.Op b.Bound)) fun r7=>.i (isL r7) (.k (getL r7)) (.bn (zcQ (Int.ofNat (getR r7).1.Args.length) (Int.ofNat (getR r7).2.Args.length)) fun r6=>.i (r6 != 0) (.k r6) (.bn (zcQ (getR r7).1.Func (getR r7).2.Func) fun r5=>.i (r5 != 0) (.k r5) (.bn (zdp (getR r7).1.Items (getR r7).2.Items) fun r4=>.i (r4 != 0) (.k r4) (.bn (zcQ (getR r7).1.Op (getR r7).2.Op) fun r3=>.i (r3 != 0) (.k r3) (.bn (zp0 (getR r7).1.Bound (getR r7).2.Bound) fun r2=>.k r2)))))))
def zmX (zdp:List Weighted→List Weighted→Bool×Int) (zbH:List Term→List Term→Bool×Int) (a:Atom) (b:Atom):Bool×Int:=(zuA zdp zbH a b).fin default
abbrev znm:=List Factor×List Factor×Int×Unit
abbrev ttTref05CompareFactors1:=Int⊕(List Factor×List Factor)
def zqL (zdH:Atom→Atom→Bool×Int) (a:List Factor) (b:List Factor) (i:Int):Wy znm (Unit) ttTref05CompareFactors1:=.i (decide (i<Int.ofNat a.length)) (.i (decide (i<Int.ofNat b.length)) (.i (decide (0≤i)&&decide (i<Int.ofNat a.length)) (.i (decide (0≤i)&&decide (i<Int.ofNat b.length)) (.bn (zdH (Atom.mk (a.getD i.toNat default).Atom.Kind (a.getD i.toNat default).Atom.Row (a.getD i.toNat default).Atom.Args (a.getD i.toNat default).Atom.Func (a.getD i.toNat default).Atom.Items (a.getD i.toNat default).Atom.Op (a.getD i.toNat default).Atom.Bound) (Atom.mk (b.getD i.toNat default).Atom.Kind (b.getD i.toNat default).Atom.Row (b.getD i.toNat default).Atom.Args (b.getD i.toNat default).Atom.Func (b.getD i.toNat default).Atom.Items (b.getD i.toNat default).Atom.Op (b.getD i.toNat default).Atom.Bound)) fun r1=>.i (r1 != 0) (.k (.inl (r1))) (.i (decide (0≤i)&&decide (i<Int.ofNat a.length)) (.i (decide (0≤i)&&decide (i<Int.ofNat b.length)) (.bn (zcQ (a.getD i.toNat default).Exp (b.getD i.toNat default).Exp) fun r0=>.i (r0 != 0) (.k (.inl (r0))) (.h (a,b,(IntKind.i64.wrap (i+1)),()) ())) .d) .d)) .d) .d) (.k (.inr (a,b)))) (.k (.inr (a,b)))
def zl2 (zdH:Atom→Atom→Bool×Int) (x:znm) (y:Unit):Wy znm (Unit) ttTref05CompareFactors1:=zqL zdH x.1 x.2.1 x.2.2.1
def zqS (zdH:Atom→Atom→Bool×Int) (n:Nat) (a:List Factor) (b:List Factor) (i:Int):Bool×ttTref05CompareFactors1:=zN (zl2 zdH) (.inl default) n (a,b,i,()) ()
def zrs (zdH:Atom→Atom→Bool×Int) (a:List Factor) (b:List Factor):Wy0 (Int):=.bn (zqS zdH (a.length+b.length+Int.toNat 0+1) a b 0) fun r5=>.i (isL r5) (.k (getL r5)) (.bn (zcQ (Int.ofNat (getR r5).1.length) (Int.ofNat (getR r5).2.length)) fun r4=>.k r4)
def zkj (zdH:Atom→Atom→Bool×Int) (a:List Factor) (b:List Factor):Bool×Int:=(zrs zdH a b).fin default
abbrev zoB:=List Weighted×List Weighted×Int×Unit
abbrev ttTref05CompareItems1:=Int⊕(List Weighted×List Weighted)
def zBa (zbH:List Term→List Term→Bool×Int) (a:List Weighted) (b:List Weighted) (i:Int):Wy zoB (Unit) ttTref05CompareItems1:=.i (decide (i<Int.ofNat a.length)) (.i (decide (i<Int.ofNat b.length)) (.i (decide (0≤i)&&decide (i<Int.ofNat a.length)) (.i (decide (0≤i)&&decide (i<Int.ofNat b.length)) (.bn (zp0 (a.getD i.toNat default).Value (b.getD i.toNat default).Value) fun r1=>.i (r1 != 0) (.k (.inl (r1))) (.i (decide (0≤i)&&decide (i<Int.ofNat a.length)) (.i (decide (0≤i)&&decide (i<Int.ofNat b.length)) (.bn (zbH (a.getD i.toNat default).Ann (b.getD i.toNat default).Ann) fun r0=>.i (r0 != 0) (.k (.inl (r0))) (.h (a,b,(IntKind.i64.wrap (i+1)),()) ())) .d) .d)) .d) .d) (.k (.inr (a,b)))) (.k (.inr (a,b)))
def zA8 (zbH:List Term→List Term→Bool×Int) (x:zoB) (y:Unit):Wy zoB (Unit) ttTref05CompareItems1:=zBa zbH x.1 x.2.1 x.2.2.1
def zBj (zbH:List Term→List Term→Bool×Int) (n:Nat) (a:List Weighted) (b:List Weighted) (i:Int):Bool×ttTref05CompareItems1:=zN (zA8 zbH) (.inl default) n (a,b,i,()) ()
def zCh (zbH:List Term→List Term→Bool×Int) (a:List Weighted) (b:List Weighted):Wy0 (Int):=.bn (zBj zbH (a.length+b.length+Int.toNat 0+1) a b 0) fun r5=>.i (isL r5) (.k (getL r5)) (.bn (zcQ (Int.ofNat (getR r5).1.length) (Int.ofNat (getR r5).2.length)) fun r4=>.k r4)
def zpk (zbH:List Term→List Term→Bool×Int) (a:List Weighted) (b:List Weighted):Bool×Int:=(zCh zbH a b).fin default
def zi8:Nat→(List Term→List Term→Bool×Int)×(List Factor→List Factor→Bool×Int)×(Atom→Atom→Bool×Int)×(List Weighted→List Weighted→Bool×Int)
 | 0=>(fun _ _=>(false,default),fun _ _=>(false,default),fun _ _=>(false,default),fun _ _=>(false,default))
 | n+1=>(zvG ((zi8 n).2.1),zkj ((zi8 n).2.2.1),zmX ((zi8 n).2.2.2) ((zi8 n).1),zpk ((zi8 n).1))
def znx (n:Nat):List Term→List Term→Bool×Int:=(zi8 n).1
def zkg (n:Nat):List Factor→List Factor→Bool×Int:=(zi8 n).2.1
def zmY (n:Nat):Atom→Atom→Bool×Int:=(zi8 n).2.2.1
def zl8 (n:Nat):List Weighted→List Weighted→Bool×Int:=(zi8 n).2.2.2
theorem zES (n:Nat):znx (n+1)=zvG (zkg n):=rfl
theorem zzw (n:Nat):zkg (n+1)=zkj (zmY n):=rfl
theorem zCf (n:Nat):zmY (n+1)=zmX (zl8 n) (znx n):=rfl
theorem zBh (n:Nat):zl8 (n+1)=zpk (znx n):=rfl
def zEm:List Term→List Term→Bool×Int:=znx 1000
def zlY:List Factor→List Factor→Bool×Int:=zkg 1000
def zly:Atom→Atom→Bool×Int:=zmY 1000
def zx1:List Weighted→List Weighted→Bool×Int:=zl8 1000
def zFM (a:List Term) (b:List Term):Wy0 (Bool):=.bn (zEm a b) fun r0=>.k (r0==0)
def zr7 (a:List Term) (b:List Term):Bool×Bool:=(zFM a b).fin default
end Go.Proofs.YtnolcogncjijpaaGreatDoor
end
