/- Texts of this claim, joined (the program, its functions in plain words, and what they compute). -/
import Derived.Test.YtddkaehkimnklaaGreatDoorGC5
import Derived.Test.YtddkaehkimnklaaGreatDoorGC1
import Derived.Test.YtddkaehkimnklaaGreatDoorGC4
import Derived.Test.YtddkaehkimnklaaGreatDoorGC6
set_option autoImplicit false
set_option linter.unusedVariables false
set_option linter.unusedSectionVars false
set_option linter.unusedSimpArgs false
set_option maxRecDepth 1000000
set_option maxHeartbeats 0
/- What the laws examine: annotations of small weight. -/
noncomputable section
namespace Go.Proofs.YtddkaehkimnklaaGreatDoor
open Go Go.Ab
theorem zAH:∀ {l:List Factor},zke l→∀ x∈l,zof x
 | [],_,x,hx=>by cases hx
 | y::r,h,x,hx=>by
  unfold zke at h
  rcases List.mem_cons.1 hx with rfl | hx
  ·exact h.1
  ·exact zAH h.2 x hx
theorem zCa:∀ {l:List Term},zkN l→∀ x∈l,zto x
 | [],_,x,hx=>by cases hx
 | y::r,h,x,hx=>by
  unfold zkN at h
  rcases List.mem_cons.1 hx with rfl | hx
  ·exact h.1
  ·exact zCa h.2 x hx
theorem zEl:∀ {l:List (List Term)},zrA l→∀ x∈l,zkN x∧x.length≤roomLen
 | [],_,x,hx=>by cases hx
 | y::r,h,x,hx=>by
  unfold zrA at h
  rcases List.mem_cons.1 hx with rfl | hx
  ·exact h.1
  ·exact zEl h.2 x hx
theorem zC0:∀ {l:List Weighted},zow l→∀ x∈l,wf40 x.Value∧zkN x.Ann∧x.Ann.length≤roomLen
 | [],_,x,hx=>by cases hx
 | y::r,h,x,hx=>by
  unfold zow at h
  rcases List.mem_cons.1 hx with rfl | hx
  ·have:=h.1; unfold zy6 at this; exact ⟨this.1,this.2.1,this.2.2⟩
  ·exact zC0 h.2 x hx
theorem zDH {t:Term} (h:zto t):wf2 t.Coeff∧zke t.Factors∧t.Factors.length≤roomLen:=by
 unfold zto at h; exact ⟨h.1,h.2.1,h.2.2⟩
theorem zG8 {t:Factor} (h:zof t):zwH t.Atom∧wf3 t.Exp:=by
 unfold zof at h; exact h
theorem zIg {x:Atom} (h:zwH x):(zrA x.Args∧x.Args.length≤roomLen)∧(zow x.Items∧x.Items.length≤roomLen)∧wf40 x.Bound∧wf3 x.Kind∧zIQ x.Row∧wf3 x.Func∧wf3 x.Op:=by
 obtain ⟨k,r,a,f,i,o,b⟩:=x; unfold zwH at h; exact ⟨h.2.2.1,h.2.2.2.2.1,h.2.2.2.2.2.2,h.1,h.2.1,h.2.2.2.1,h.2.2.2.2.2.1⟩
mutual
def zCj:Atom→Nat
 | ⟨_,_,a,_,i,_,b⟩=>i.length+a.length+b.Text.size+zor a+zmk i
def zja:List Factor→Nat
 | []=>0
 | ⟨x,_⟩::r=>zCj x+zja r
def zgW:List Term→Nat
 | []=>0
 | ⟨_,fs⟩::r=>1+fs.length+zja fs+zgW r
def zor:List (List Term)→Nat
 | []=>0
 | a::r=>zgW a+zor r
def zmk:List Weighted→Nat
 | []=>0
 | ⟨v,a⟩::r=>v.Text.size+zgW a+zmk r
end
theorem zIx (x:Atom):zCj x=x.Items.length+x.Args.length+x.Bound.Text.size+zor x.Args+zmk x.Items:=by cases x; rw [zCj]
theorem zD7 (f:Factor) (r:List Factor):zja (f::r)=zCj f.Atom+zja r:=by cases f; rw [zja]
theorem zHn (t:Term) (r:List Term):zgW (t::r)=1+t.Factors.length+zja t.Factors+zgW r:=by cases t; rw [zgW]
theorem zGP (a:List Term) (r:List (List Term)):zor (a::r)=zgW a+zor r:=by rw [zor]
theorem zFO (w:Weighted) (r:List Weighted):zmk (w::r)=w.Value.Text.size+zgW w.Ann+zmk r:=by cases w; rw [zmk]
theorem zHp:zor []=0:=by rw [zor]
theorem zGs:zmk []=0:=by rw [zmk]
theorem zEw:zja []=0:=by rw [zja]
theorem zIt:zgW []=0:=by rw [zgW]
section
variable (g:List Term→Int→Int→Bool×Int) (a:List Term) (limit d:Nat) (hl:limit≤1000) (hd:d≤100) (B:Nat) (hB:B≤1152921504606846976) (P:List Term→Prop)
include hl hd hB
theorem w14 (x:Atom) (i k:Int) (hlen:x.Args.length≤roomLen) (hg:∀ y∈x.Args,∀ l:Nat,l≤1000→∃ w:Nat,g y l d=(true,(w:Int))∧w≤B∧(w≤l→P y∧zgW y≤w)):
  ∀ (fuel j n:Nat),x.Args.length<j+fuel→j≤x.Args.length→n≤2305843009213693952→∃ n':Nat,znN g fuel a limit (d+1:Nat) n i k j x=(true,(a,(limit:Int),((d+1:Nat):Int),(n':Int),i,k,x))∧n≤n'∧n'≤max n (limit+B)∧(n'≤limit→(∀ y∈x.Args.drop j,P y)∧n+zor (x.Args.drop j)≤n')
 | 0,j,n,h1,h2,h3=>by omega
 | fuel+1,j,n,h1,h2,h3=>by
  show ∃ n':Nat,(zn2 g a limit (d+1:Nat) n i k j x).ev (fun x y=>znN g fuel x.1 x.2.1 x.2.2.1 x.2.2.2.1 x.2.2.2.2.1 x.2.2.2.2.2.1 x.2.2.2.2.2.2.2.1 y.1) (fun r=>(true,r)) (false,default)=_∧_
  unfold zn2
  have hml:roomLen=140737488351232:=rfl
  by_cases hj:j<x.Args.length
  ·by_cases hn:n≤limit
   ·have e1:IntKind.i64.wrap ((limit:Int) - (n:Int))=((limit - n:Nat):Int):=by rw [zhM (by omega) (by omega)]; omega
    obtain ⟨w,hw,hwB,hwP⟩:=hg _ (zhR hj) (limit - n) (by omega)
    have ed:IntKind.i64.wrap (((d+1:Nat):Int) - 1)=(d:Int):=by rw [zhM (by omega) (by omega)]; omega
    simp only [Wy.ev_i,Wy.ev_k,Wy.ev_h,Wy.ev_bn,Wy.ev_d,tT,hj,zkh,hn,e1,ed,hw]
    have e3:IntKind.i64.wrap ((n:Int)+(w:Int))=((n+w:Nat):Int):=by rw [zhM (by omega) (by omega)]; omega
    rw [e3,zbt (by omega)]
    obtain ⟨n',h4,h5,h6,h7⟩:=w14 x i k hlen hg fuel (j+1) (n+w) (by omega) (by omega) (by omega)
    refine ⟨n',h4,by omega,by omega,fun hn'=> ?_⟩
    obtain ⟨h8,h9⟩:=h7 hn'
    obtain ⟨p1,p2⟩:=hwP (by omega)
    rw [ziz hj,zGP]
    refine ⟨fun y hy=> ?_,by omega⟩
    rcases List.mem_cons.1 hy with rfl | hy
    ·exact p1
    ·exact h8 y hy
   ·simp only [Wy.ev_i,Wy.ev_k,Wy.ev_h,Wy.ev_bn,Wy.ev_d,tT,hj,zkh,hn]
    exact ⟨n,rfl,Nat.le_refl _,by omega,fun h=>absurd h hn⟩
  ·simp only [Wy.ev_i,Wy.ev_k,Wy.ev_h,Wy.ev_bn,Wy.ev_d,tT,hj]
   exact ⟨n,rfl,Nat.le_refl _,by omega,fun _=>by rw [zit hj,zHp]; exact ⟨fun y hy=>(by cases hy),Nat.le_refl _⟩⟩
theorem w18 (x:Atom) (i k:Int) (hlen:x.Items.length≤roomLen) (hg:∀ y∈x.Items,y.Value.Text.size≤roomLen∧∀ l:Nat,l≤1000→∃ w:Nat,g y.Ann l d=(true,(w:Int))∧w≤B∧(w≤l→P y.Ann∧zgW y.Ann≤w)):
  ∀ (fuel j n:Nat),x.Items.length<j+fuel→j≤x.Items.length→n≤2305843009213693952→∃ n':Nat,zon g fuel a limit (d+1:Nat) n i k j x=(true,(a,(limit:Int),((d+1:Nat):Int),(n':Int),i,k))∧n≤n'∧n'≤max n (limit+roomLen+B)∧(n'≤limit→(∀ y∈x.Items.drop j,y.Value.Text.size≤1000∧P y.Ann)∧n+zmk (x.Items.drop j)≤n')
 | 0,j,n,h1,h2,h3=>by omega
 | fuel+1,j,n,h1,h2,h3=>by
  show ∃ n':Nat,(zn0 g a limit (d+1:Nat) n i k j x).ev (fun x y=>zon g fuel x.1 x.2.1 x.2.2.1 x.2.2.2.1 x.2.2.2.2.1 x.2.2.2.2.2.1 x.2.2.2.2.2.2.2.1 y.1) (fun r=>(true,r)) (false,default)=_∧_
  unfold zn0
  have hml:roomLen=140737488351232:=rfl
  by_cases hj:j<x.Items.length
  ·by_cases hn:n≤limit
   ·have e1:IntKind.i64.wrap ((limit:Int) - (n:Int))=((limit - n:Nat):Int):=by rw [zhM (by omega) (by omega)]; omega
    obtain ⟨ht,hgy⟩:=hg _ (zhR hj)
    obtain ⟨w,hw,hwB,hwP⟩:=hgy (limit - n) (by omega)
    have ed:IntKind.i64.wrap (((d+1:Nat):Int) - 1)=(d:Int):=by rw [zhM (by omega) (by omega)]; omega
    simp only [Wy.ev_i,Wy.ev_k,Wy.ev_h,Wy.ev_bn,Wy.ev_d,tT,hj,zkh,hn,e1,ed,hw]
    generalize hsz:(x.Items.getD j default).Value.Text.size=sz at *
    have e3:IntKind.i64.wrap (IntKind.i64.wrap ((n:Int)+(sz:Int))+(w:Int))=((n+sz+w:Nat):Int):=by rw [zhM (z:=(n:Int)+(sz:Int)) (by omega) (by omega),zhM (by omega) (by omega)]; omega
    rw [e3,zbt (by omega)]
    obtain ⟨n',h4,h5,h6,h7⟩:=w18 x i k hlen hg fuel (j+1) (n+sz+w) (by omega) (by omega) (by omega)
    refine ⟨n',h4,by omega,by omega,fun hn'=> ?_⟩
    obtain ⟨h8,h9⟩:=h7 hn'
    obtain ⟨p1,p2⟩:=hwP (by omega)
    rw [ziz hj,zFO]
    refine ⟨fun y hy=> ?_,by omega⟩
    rcases List.mem_cons.1 hy with rfl | hy
    ·exact ⟨by omega,p1⟩
    ·exact h8 y hy
   ·simp only [Wy.ev_i,Wy.ev_k,Wy.ev_h,Wy.ev_bn,Wy.ev_d,tT,hj,zkh,hn]
    exact ⟨n,rfl,Nat.le_refl _,by omega,fun h=>absurd h hn⟩
  ·simp only [Wy.ev_i,Wy.ev_k,Wy.ev_h,Wy.ev_bn,Wy.ev_d,tT,hj]
   exact ⟨n,rfl,Nat.le_refl _,by omega,fun _=>by rw [zit hj,zGs]; exact ⟨fun y hy=>(by cases hy),Nat.le_refl _⟩⟩
theorem w9 (i:Nat) (hi:i<a.length) (hla:(a.getD i default).Factors.length≤roomLen) (hg:∀ f∈(a.getD i default).Factors,f.Atom.Args.length≤roomLen∧f.Atom.Items.length≤roomLen∧f.Atom.Bound.Text.size≤roomLen∧(∀ y∈f.Atom.Args,∀ l:Nat,l≤1000→∃ w:Nat,g y l d=(true,(w:Int))∧w≤B∧(w≤l→P y∧zgW y≤w))∧
   ∀ y∈f.Atom.Items,y.Value.Text.size≤roomLen∧∀ l:Nat,l≤1000→∃ w:Nat,g y.Ann l d=(true,(w:Int))∧w≤B∧(w≤l→P y.Ann∧zgW y.Ann≤w)):
  ∀ (fuel k n:Nat),(a.getD i default).Factors.length<k+fuel→k≤(a.getD i default).Factors.length→n≤2305843009213693952→∃ n':Nat,zo3 g fuel a limit (d+1:Nat) n i k=(true,(a,(limit:Int),((d+1:Nat):Int),(n':Int),(i:Int)))∧n≤n'∧n'≤max n (limit+4*roomLen+B)∧
   (n'≤limit→(∀ f∈(a.getD i default).Factors.drop k,(f.Atom.Args.length≤1000∧f.Atom.Items.length≤1000∧f.Atom.Bound.Text.size≤1000)∧(∀ y∈f.Atom.Args,P y)∧∀ y∈f.Atom.Items,y.Value.Text.size≤1000∧P y.Ann)∧n+zja ((a.getD i default).Factors.drop k)≤n')
 | 0,k,n,h1,h2,h3=>by omega
 | fuel+1,k,n,h1,h2,h3=>by
  show ∃ n':Nat,(zpa g a limit (d+1:Nat) n i k).ev (fun x y=>zo3 g fuel x.1 x.2.1 x.2.2.1 x.2.2.2.1 x.2.2.2.2.1 x.2.2.2.2.2.1) (fun r=>(true,r)) (false,default)=_∧_
  unfold zpa
  have hml:roomLen=140737488351232:=rfl
  by_cases hk:k<(a.getD i default).Factors.length
  ·by_cases hn:n≤limit
   ·simp only [Wy.ev_i,Wy.ev_k,Wy.ev_h,Wy.ev_bn,Wy.ev_d,tT,hi,hk,zkh,hn,Atom.eta]
    obtain ⟨ha1,ha2,ha3,hgA,hgI⟩:=hg _ (zhR hk)
    generalize hf:((a.getD i default).Factors.getD k default)=f at *
    have e0:IntKind.i64.wrap (IntKind.i64.wrap (IntKind.i64.wrap ((n:Int)+(f.Atom.Items.length:Int))+(f.Atom.Args.length:Int))+(f.Atom.Bound.Text.size:Int))=((n+f.Atom.Items.length+f.Atom.Args.length+f.Atom.Bound.Text.size:Nat):Int):=by
     rw [zhM (z:=(n:Int)+(f.Atom.Items.length:Int)) (by omega) (by omega),zhM (z:=(n:Int)+(f.Atom.Items.length:Int)+(f.Atom.Args.length:Int)) (by omega) (by omega),zhM (by omega) (by omega)]; omega
    rw [e0]
    obtain ⟨n1,q1,q2,q3,q4⟩:=w14 g a limit d hl hd B hB P f.Atom i k ha1 hgA (a.length+limit+(d+1)+((n+f.Atom.Items.length+f.Atom.Args.length+f.Atom.Bound.Text.size:Nat):Int).toNat +i+k+Int.toNat 0+f.Atom.Args.length+f.Atom.Items.length+1000) 0 (n+f.Atom.Items.length+f.Atom.Args.length+f.Atom.Bound.Text.size) (by omega) (by omega) (by omega)
    rw [show ((0:Nat):Int)=(0:Int) from rfl] at q1
    rw [q1]
    simp only [cond_true,Atom.eta,Int.toNat_natCast]
    obtain ⟨n2,r1,r2,r3,r4⟩:=w18 g a limit d hl hd B hB P f.Atom i k ha2 hgI (a.length+limit+(d+1)+n1+i+k+Int.toNat 0+f.Atom.Args.length+f.Atom.Items.length+1000) 0 n1 (by omega) (by omega) (by omega)
    rw [show ((0:Nat):Int)=(0:Int) from rfl] at r1
    rw [r1]
    simp only [cond_true]
    rw [zbt (by omega)]
    obtain ⟨n',h4,h5,h6,h7⟩:=w9 i hi hla hg fuel (k+1) n2 (by omega) (by omega) (by omega)
    refine ⟨n',h4,by omega,by omega,fun hn'=> ?_⟩
    obtain ⟨h8,h9⟩:=h7 hn'
    obtain ⟨q5,q6⟩:=q4 (by omega)
    obtain ⟨r5,r6⟩:=r4 (by omega)
    rw [List.drop_zero] at q5 q6 r5 r6
    rw [ziz hk,zD7,hf,zIx]
    refine ⟨fun y hy=> ?_,by omega⟩
    rcases List.mem_cons.1 hy with rfl | hy
    ·exact ⟨⟨by omega,by omega,by omega⟩,q5,r5⟩
    ·exact h8 y hy
   ·simp only [Wy.ev_i,Wy.ev_k,Wy.ev_h,Wy.ev_bn,Wy.ev_d,tT,hi,hk,zkh,hn]
    exact ⟨n,rfl,Nat.le_refl _,by omega,fun h=>absurd h hn⟩
  ·simp only [Wy.ev_i,Wy.ev_k,Wy.ev_h,Wy.ev_bn,Wy.ev_d,tT,hi,hk]
   exact ⟨n,rfl,Nat.le_refl _,by omega,fun _=>by rw [zit hk,zEw]; exact ⟨fun y hy=>(by cases hy),Nat.le_refl _⟩⟩
theorem w5 (hla:∀ t∈a,t.Factors.length≤roomLen) (hg:∀ t∈a,∀ f∈t.Factors,f.Atom.Args.length≤roomLen∧f.Atom.Items.length≤roomLen∧f.Atom.Bound.Text.size≤roomLen∧(∀ y∈f.Atom.Args,∀ l:Nat,l≤1000→∃ w:Nat,g y l d=(true,(w:Int))∧w≤B∧(w≤l→P y∧zgW y≤w))∧
   ∀ y∈f.Atom.Items,y.Value.Text.size≤roomLen∧∀ l:Nat,l≤1000→∃ w:Nat,g y.Ann l d=(true,(w:Int))∧w≤B∧(w≤l→P y.Ann∧zgW y.Ann≤w)) (hlen:a.length≤roomLen):
  ∀ (fuel i n:Nat),a.length<i+fuel→i≤a.length→n≤2305843009213693952→∃ n':Nat,zo6 g fuel a limit (d+1:Nat) n i=(true,(n':Int))∧n≤n'∧n'≤max n (limit+6*roomLen+B)∧
   (n'≤limit→(n+(a.length - i)≤n'∧n+zgW (a.drop i)≤n')∧∀ t∈a.drop i,t.Factors.length≤1000∧∀ f∈t.Factors,(f.Atom.Args.length≤1000∧f.Atom.Items.length≤1000∧f.Atom.Bound.Text.size≤1000)∧(∀ y∈f.Atom.Args,P y)∧∀ y∈f.Atom.Items,y.Value.Text.size≤1000∧P y.Ann)
 | 0,i,n,h1,h2,h3=>by omega
 | fuel+1,i,n,h1,h2,h3=>by
  show ∃ n':Nat,(zo7 g a limit (d+1:Nat) n i).ev (fun x y=>zo6 g fuel x.1 x.2.1 x.2.2.1 x.2.2.2.1 x.2.2.2.2.1) (fun r=>(true,r)) (false,default)=_∧_
  unfold zo7
  have hml:roomLen=140737488351232:=rfl
  by_cases hi:i<a.length
  ·by_cases hn:n≤limit
   ·simp only [Wy.ev_i,Wy.ev_k,Wy.ev_h,Wy.ev_bn,Wy.ev_d,tT,hi,zkh,hn]
    have hla':=hla _ (zhR hi)
    have e0:IntKind.i64.wrap (IntKind.i64.wrap ((n:Int)+1)+((a.getD i default).Factors.length:Int))=((n+1+(a.getD i default).Factors.length:Nat):Int):=by
     rw [zbt (by omega),zhM (by omega) (by omega)]; omega
    rw [e0]
    obtain ⟨n1,q1,q2,q3,q4⟩:=w9 g a limit d hl hd B hB P i hi hla' (hg _ (zhR hi)) (a.length+limit+(d+1)+((n+1+(a.getD i default).Factors.length:Nat):Int).toNat +i+Int.toNat 0+1000) 0 (n+1+(a.getD i default).Factors.length) (by omega) (by omega) (by omega)
    rw [show ((0:Nat):Int)=(0:Int) from rfl] at q1
    rw [q1]
    simp only [cond_true]
    rw [zbt (by omega)]
    obtain ⟨n',h4,h5,h6,h7⟩:=w5 hla hg hlen fuel (i+1) n1 (by omega) (by omega) (by omega)
    refine ⟨n',h4,by omega,by omega,fun hn'=> ?_⟩
    obtain ⟨⟨h8,h10⟩,h9⟩:=h7 hn'
    obtain ⟨q5,q6⟩:=q4 (by omega)
    rw [List.drop_zero] at q5 q6
    rw [ziz hi,zHn]
    refine ⟨⟨by omega,by omega⟩,fun y hy=> ?_⟩
    rcases List.mem_cons.1 hy with rfl | hy
    ·exact ⟨by omega,q5⟩
    ·exact h9 y hy
   ·simp only [Wy.ev_i,Wy.ev_k,Wy.ev_h,Wy.ev_bn,Wy.ev_d,tT,hi,zkh,hn]
    exact ⟨n,rfl,Nat.le_refl _,by omega,fun h=>absurd h hn⟩
  ·simp only [Wy.ev_i,Wy.ev_k,Wy.ev_h,Wy.ev_bn,Wy.ev_d,tT,hi]
   exact ⟨n,rfl,Nat.le_refl _,by omega,fun _=>by rw [zit hi,zIt]; exact ⟨⟨by omega,Nat.le_refl _⟩,fun y hy=>(by cases hy)⟩⟩
end
theorem zFp:∀ (d N:Nat),d<N→d≤12→∀ (l:Nat),l≤1000→∀ a,zkN a→a.length≤roomLen→∃ w:Nat,zjx N a l d=(true,(w:Int))∧w≤(d+1)*4503599627370496∧(w≤l→zjA d a∧zgW a≤w)
 | _,0,h,_,_,_,_,_,_=>by omega
 | 0,N+1,_,_,l,hl,a,hw,hlen=>by
  rw [zuH]
  unfold zkU zmc
  refine ⟨l+1, ?_,by omega,fun h=>by omega⟩
  simp only [Wy.fin_i,Wy.fin_k]
  rw [zbt (by omega)]; rfl
 | d+1,N+1,hN,hd,l,hl,a,hw,hlen=>by
  rw [zuH]
  unfold zkU zmc
  have hml:roomLen=140737488351232:=rfl
  have ih:=fun y (h1:zkN y) (h2:y.length≤roomLen) l hl=>zFp d N (by omega) (by omega) l hl y h1 h2
  have e0:(((d+1:Nat):Int)==(0:Int))=false:=by
   rw [beq_eq_false_iff_ne]; omega
  obtain ⟨n',h1,h2,h3,h4⟩:=w5 (zjx N) a l d hl (by omega) ((d+1)*4503599627370496) (by omega) (zjA d) (fun t ht=>(zDH (zCa hw t ht)).2.2) (fun t ht f hf=>by
   have hx:=zIg (zG8 (zAH (zDH (zCa hw t ht)).2.1 f hf)).1
   refine ⟨hx.1.2,hx.2.1.2,hx.2.2.1.2.2,fun y hy l hl=> ?_,fun y hy=> ?_⟩
   ·have:=zEl hx.1.1 y hy
    exact ih y this.1 this.2 l hl
   ·have:=zC0 hx.2.1.1 y hy
    exact ⟨this.1.2.2,fun l hl=>ih y.Ann this.2.1 this.2.2 l hl⟩) hlen (a.length+l+(d+1)+Int.toNat 0+Int.toNat 0+1000) 0 0 (by omega) (by omega) (by omega)
  rw [show ((0:Nat):Int)=(0:Int) from rfl] at h1
  refine ⟨n', ?_,by omega,fun hn=> ?_⟩
  ·simp only [Wy.fin_i,Wy.fin_k,Wy.fin_bn,e0,cond_false,Int.toNat_natCast,h1,cond_true]
  ·obtain ⟨⟨h5,h12⟩,h6⟩:=h4 hn
   rw [List.drop_zero] at h12
   refine ⟨⟨by omega,fun t ht=> ?_⟩,by omega⟩
   obtain ⟨h7,h8⟩:=h6 t (by simpa using ht)
   refine ⟨by omega,fun f hf=> ?_⟩
   obtain ⟨h9,h10,h11⟩:=h8 f hf
   exact ⟨⟨by omega,by omega,by omega⟩,h10,fun w hw=>⟨by have:=(h11 w hw).1; omega,(h11 w hw).2⟩⟩
theorem zGC (limit:Nat) (hl:limit≤1000) (l:List (List Term)) (hll:l.length≤1000) (hw:∀ a∈l,zkN a∧a.length≤roomLen):∀ (n i:Nat),l.length<i+n→i≤l.length→∃ r,zvC n limit l i=(true,r)∧((r=.inl false)∨(r=.inr ()∧∀ a∈l.drop i,zjA 12 a∧zgW a≤limit))
 | 0,i,h1,h2=>by omega
 | n+1,i,h1,h2=>by
  show ∃ r,(zwP limit l i).ev (fun x y=>zvC n x.1 x.2.1 x.2.2.1) (fun r=>(true,r)) (false,.inl default)=(true,r)∧_
  unfold zwP
  by_cases hi:i<l.length
  ·obtain ⟨w,q1,q2,q3⟩:=zFp 12 1000 (by omega) (by omega) limit hl _ (hw _ (zhR hi)).1 (hw _ (zhR hi)).2
   have q1':zvG (l.getD i default) (limit:Int) 12=(true,(w:Int)):=q1
   simp only [Wy.ev_i,Wy.ev_k,Wy.ev_h,Wy.ev_bn,Wy.ev_d,tT,hi,q1',zBY]
   by_cases hg:limit<w
   ·simp only [hg,decide_true,cond_true]
    exact ⟨_,rfl,.inl rfl⟩
   ·simp only [hg,decide_false,cond_false]
    rw [zbt (by omega)]
    obtain ⟨r,h3,h4⟩:=zGC limit hl l hll hw n (i+1) (by omega) (by omega)
    refine ⟨r,h3, ?_⟩
    rcases h4 with h4 | ⟨h4,h5⟩
    ·exact .inl h4
    ·refine .inr ⟨h4,fun a ha=> ?_⟩
     rw [ziz hi] at ha
     rcases List.mem_cons.1 ha with rfl | ha
     ·exact ⟨(q3 (by omega)).1,by have:=(q3 (by omega)).2; omega⟩
     ·exact h5 a ha
  ·simp only [Wy.ev_i,Wy.ev_k,Wy.ev_h,Wy.ev_bn,Wy.ev_d,tT,hi]
   exact ⟨_,rfl,.inr ⟨rfl,fun a ha=>by rw [zit hi] at ha; cases ha⟩⟩
theorem zLi (limit:Nat) (hl:limit≤1000) (l:List (List Term)) (hll:l.length≤1000) (hw:∀ a∈l,zkN a∧a.length≤roomLen):∃ b,zqk limit l=(true,b)∧(b=true→∀ a∈l,zjA 12 a∧zgW a≤limit):=by
 unfold zqk zyd
 obtain ⟨r,h1,h2⟩:=zGC limit hl l hll hw (limit+l.length+Int.toNat 0+1000) 0 (by omega) (by omega)
 rw [show ((0:Nat):Int)=(0:Int) from rfl] at h1
 rw [Wy.fin_bn]
 simp only [Int.toNat_natCast,h1,cond_true]
 rcases h2 with rfl | ⟨rfl,h2⟩
 ·exact ⟨false,rfl,fun h=>by cases h⟩
 ·exact ⟨true,rfl,fun _ a ha=>h2 a (by simpa using ha)⟩
theorem few7 (c:List Column) (rows:List Row) (hc:c.length≤20):∀ (n k:Nat),c.length<k+n→k≤c.length→∃ r,zBa n (12:Int) (8:Int) [⟨c,rows⟩] (0:Int) k=(true,r)∧(r=.inl false∨r=.inr (12,8,[⟨c,rows⟩],0))
 | 0,k,h,h2=>by omega
 | n+1,k,h,h2=>by
  show ∃ r,(zvV (12:Int) (8:Int) [⟨c,rows⟩] (0:Int) k).ev (zN zsc (.inl default) n) (fun r=>(true,r)) (false,.inl default)=(true,r)∧_
  unfold zvV
  have i0:(decide ((0:Int)≤(0:Int))&&decide ((0:Int)<Int.ofNat [(⟨c,rows⟩:Relation)].length))=true:=rfl
  have g0:[(⟨c,rows⟩:Relation)].getD (Int.toNat (0:Int)) default=⟨c,rows⟩:=rfl
  by_cases hk:k<c.length
  ·simp only [Wy.ev_i,Wy.ev_k,Wy.ev_h,Wy.ev_d,i0,g0,cond_true,tT,hk]
   generalize decide (_>(100:Int))=q
   cases q with
   | true=>exact ⟨_,rfl,.inl rfl⟩
   | false=>
    rw [cond_false,zbt (by omega)]
    exact few7 c rows hc n (k+1) (by omega) (by omega)
  ·simp only [Wy.ev_i,Wy.ev_k,Wy.ev_h,Wy.ev_d,i0,g0,cond_true,tT,hk]
   exact ⟨_,rfl,.inr rfl⟩
theorem zKn (c:List Column) (rows:List Row) (hr:rows.length≤12) (hw:∀ x∈rows,wf38 x):∀ (n k:Nat),rows.length<k+n→k≤rows.length→∃ r,zAs n (12:Int) (8:Int) [⟨c,rows⟩] (0:Int) k=(true,r)∧(r=.inl false∨r=.inr (12,8,[⟨c,rows⟩],0))
 | 0,k,h,h2=>by omega
 | n+1,k,h,h2=>by
  show ∃ r,(zug (12:Int) (8:Int) [⟨c,rows⟩] (0:Int) k).ev (zN zp5 (.inl default) n) (fun r=>(true,r)) (false,.inl default)=(true,r)∧_
  unfold zug
  have i0:(decide ((0:Int)≤(0:Int))&&decide ((0:Int)<Int.ofNat [(⟨c,rows⟩:Relation)].length))=true:=rfl
  have g0:[(⟨c,rows⟩:Relation)].getD (Int.toNat (0:Int)) default=⟨c,rows⟩:=rfl
  by_cases hk:k<rows.length
  ·have hx:=hw _ (zhR hk)
   obtain ⟨b,b1,b2⟩:=zKb (rows.getD k default).Values 20 hx.1.2
   obtain ⟨q,q1,q2⟩:=zLi 8 (by omega) [(rows.getD k default).Ann] (by simp) (fun y hy=>by
    rw [List.mem_singleton] at hy; subst hy; exact hx.2)
   replace b1:zmM (rows.getD k default).Values (20:Int)=(true,b):=b1
   replace q1:zqk (8:Int) [(rows.getD k default).Ann]=(true,q):=q1
   simp only [Wy.ev_i,Wy.ev_k,Wy.ev_h,Wy.ev_bn,Wy.ev_d,i0,g0,cond_true,tT,hk,b1,q1]
   cases b with
   | false=>exact ⟨_,rfl,.inl rfl⟩
   | true=>
    cases q with
    | false=>exact ⟨_,rfl,.inl rfl⟩
    | true=>
     rw [zbt (by omega)]
     exact zKn c rows hr hw n (k+1) (by omega) (by omega)
  ·simp only [Wy.ev_i,Wy.ev_k,Wy.ev_h,Wy.ev_d,i0,g0,cond_true,tT,hk]
   exact ⟨_,rfl,.inr rfl⟩
theorem zK9 (t:Table) (ht:wf25 t):∃ b,zt2 t=(true,b)∧(b=true→t.Rows.length≤12∧t.Columns.length≤20):=by
 have key:∃ b,ztU (12:Int) (8:Int) [⟨t.Columns,t.Rows⟩]=(true,b)∧(b=true→t.Rows.length≤12∧t.Columns.length≤20):=by
  unfold ztU zx3
  have l2:∃ r,∀ n,zvA (n+2) (12:Int) (8:Int) [⟨t.Columns,t.Rows⟩] (0:Int)=(true,r)∧(r=.inl false∨(r=.inr ()∧t.Rows.length≤12∧t.Columns.length≤20)):=by
   have step:∀ n,zvA (n+2) (12:Int) (8:Int) [⟨t.Columns,t.Rows⟩] (0:Int)=(zjO (12:Int) (8:Int) [⟨t.Columns,t.Rows⟩] (0:Int)).ev (zN zrR (.inl default) (n+1)) (fun r=>(true,r)) (false,.inl default):=fun n=>rfl
   have i0:(decide ((0:Int)≤(0:Int))&&decide ((0:Int)<Int.ofNat [(⟨t.Columns,t.Rows⟩:Relation)].length))=true:=rfl
   have i00:decide ((0:Int)≤(0:Int))=true:=rfl
   have i1:decide ((0:Int)<Int.ofNat [(⟨t.Columns,t.Rows⟩:Relation)].length)=true:=rfl
   have g0:[(⟨t.Columns,t.Rows⟩:Relation)].getD (Int.toNat (0:Int)) default=⟨t.Columns,t.Rows⟩:=rfl
   have e1:decide (Int.ofNat t.Rows.length>(12:Int))=decide (t.Rows.length>12):=zBY _ 12
   have e2:decide (Int.ofNat t.Columns.length>(20:Int))=decide (t.Columns.length>20):=zBY _ 20
   by_cases h1:t.Rows.length>12
   ·refine ⟨.inl false,fun n=>⟨?_,.inl rfl⟩⟩
    rw [step]
    unfold zjO
    simp only [Wy.ev_i,Wy.ev_k,i00,i1,Bool.and_self,g0,e1,decide_eq_true h1,cond_true]
   ·by_cases h2:t.Columns.length>20
    ·refine ⟨.inl false,fun n=>⟨?_,.inl rfl⟩⟩
     rw [step]
     unfold zjO
     simp only [Wy.ev_i,Wy.ev_k,i00,i1,Bool.and_self,g0,e1,e2,decide_eq_false h1,decide_eq_true h2,cond_true,cond_false]
    ·obtain ⟨r7,a1,a2⟩:=few7 t.Columns t.Rows (by omega) ((12:Int).toNat +(8:Int).toNat +[(⟨t.Columns,t.Rows⟩:Relation)].length+(0:Int).toNat +Int.toNat (0:Int)+(1000:Nat)) 0 (by simp; omega) (by omega)
     obtain ⟨r12,b1,b2⟩:=zKn t.Columns t.Rows (by omega) ht.2.2.2.1 ((12:Int).toNat +(8:Int).toNat +[(⟨t.Columns,t.Rows⟩:Relation)].length+(0:Int).toNat +Int.toNat (0:Int)+(1000:Nat)) 0 (by simp; omega) (by omega)
     rw [show ((0:Nat):Int)=(0:Int) from rfl] at a1 b1
     rcases a2 with rfl | rfl
     ·refine ⟨.inl false,fun n=>⟨?_,.inl rfl⟩⟩
      rw [step]
      unfold zjO
      simp only [Wy.ev_i,Wy.ev_k,Wy.ev_bn,i00,i1,Bool.and_self,g0,e1,e2,decide_eq_false h1,decide_eq_false h2,cond_true,cond_false,a1,isL,getL]
     ·rcases b2 with rfl | rfl
      ·refine ⟨.inl false,fun n=>⟨?_,.inl rfl⟩⟩
       rw [step]
       unfold zjO
       simp only [Wy.ev_i,Wy.ev_k,Wy.ev_bn,i00,i1,Bool.and_self,g0,e1,e2,decide_eq_false h1,decide_eq_false h2,cond_true,cond_false,a1,b1,isL,getL,getR]
      ·refine ⟨.inr (),fun n=>⟨?_,.inr ⟨rfl,by omega,by omega⟩⟩⟩
       rw [step]
       unfold zjO
       simp only [Wy.ev_i,Wy.ev_k,Wy.ev_h,Wy.ev_bn,i00,i1,Bool.and_self,g0,e1,e2,decide_eq_false h1,decide_eq_false h2,cond_true,cond_false,a1,b1,isL,getL,getR]
       rfl
  obtain ⟨r,hr⟩:=l2
  obtain ⟨h1,h2⟩:=hr ((12:Int).toNat +(8:Int).toNat +[(⟨t.Columns,t.Rows⟩:Relation)].length+Int.toNat (0:Int)+(998:Nat))
  rw [Wy.fin_bn,show (12:Int).toNat +(8:Int).toNat +[(⟨t.Columns,t.Rows⟩:Relation)].length+Int.toNat (0:Int)+(1000:Nat)=(12:Int).toNat +(8:Int).toNat +[(⟨t.Columns,t.Rows⟩:Relation)].length+Int.toNat (0:Int)+(998:Nat)+2 from rfl,h1]
  rcases h2 with rfl | ⟨rfl,h2⟩
  ·exact ⟨false,rfl,fun h=>by cases h⟩
  ·exact ⟨true,rfl,fun _=>h2⟩
 obtain ⟨b,b1,b2⟩:=key
 refine ⟨b, ?_,b2⟩
 unfold zt2 zx5
 rw [Wy.fin_bn,b1]; rfl
theorem zEx {s:List Value} (h:AscV s) {i j:Nat} (hij:i≤j) (hj:j<s.length):cmpV (s.getD i default) (s.getD j default)≤0:=by
 by_cases he:i=j
 ·subst he; rw [(zxF _ _).2 rfl]; omega
 ·have:=List.pairwise_iff_getElem.1 h i j (by omega) hj (by omega)
  have e1:s.getD i default=s[i]:=by rw [List.getD_eq_getElem?_getD,List.getElem?_eq_getElem (by omega)]; rfl
  have e2:s.getD j default=s[j]:=by rw [List.getD_eq_getElem?_getD,List.getElem?_eq_getElem hj]; rfl
  rw [e1,e2]; exact this
theorem zIE {s:List Value} (h:AscV s) (h0:0<s.length):1≤zty s∧zty s≤s.length:=by
 obtain ⟨h1,h2⟩:=adjV s h
 refine ⟨?_,zeW h1 fun x hx=>(h2 x).1 hx⟩
 cases s with
 | nil=>simp at h0
 | cons x r=>show 1≤(x::ziu _ x r).length; simp
theorem zz6 (s:List Value) (n:Nat) {j k:Nat} (h:j<k):(bnds s n k).getD j default=bndP s n j:=by
 unfold bnds
 rw [List.getD_eq_getElem?_getD,List.getElem?_map,List.getElem?_range h]; rfl
theorem zKG (l:List Value) (T:Int) (hl:l.length≤1000000) (hv:∀ v∈l,zir T v=true):okC (colR l) l.length=true:=by
 unfold colR
 by_cases h0:l.length=0
 ·rw [if_pos h0,h0]; rfl
 ·rw [if_neg h0]
  have hs:=zyh l
  have ha:=zGI (l:=l) (by omega)
  have hk:∀ i,i<l.length→zir T ((srtV l).getD i default)=true:=fun i hi=>hv _ ((zxX l).mem_iff.1 (zhR (by omega)))
  have hkk:∀ i,i<l.length→valV ((srtV l).getD i default)=true∧((srtV l).getD i default).Kind=T:=fun i hi=>by
   have:=hk i hi
   unfold zir at this
   simp only [Bool.and_eq_true,decide_eq_true_eq] at this
   exact this
  have hst:=zIE ha (by omega)
  have hin:∀ j,j<8→((j+1)*l.length+7) / 8 - 1<l.length:=fun j hj=>by
   have:=zGl (n:=l.length) (i:=j) (by omega) (by omega); omega
  have h0k:=hkk 0 (by omega)
  have hnk:=hkk (l.length - 1) (by omega)
  have b7:(bnds (srtV l) l.length 8).getD 7 default=(srtV l).getD (l.length - 1) default:=by
   rw [zz6 _ _ (by omega)]
   unfold bndP
   congr 1
   omega
  have b0:cmpV ((srtV l).getD 0 default) ((bnds (srtV l) l.length 8).getD 0 default)≤0:=by
   rw [zz6 _ _ (by omega)]
   exact zEx ha (Nat.zero_le _) (by rw [hs]; exact hin 0 (by omega))
  have ball:(bnds (srtV l) l.length 8).all (zir ((srtV l).getD 0 default).Kind)=true:=by
   rw [List.all_eq_true]
   intro b hb
   unfold bnds at hb
   obtain ⟨j,hj,rfl⟩:=List.mem_map.1 hb
   rw [h0k.2]
   exact hk _ (hin j (List.mem_range.1 hj))
  have bs:allN (srtB (bnds (srtV l) l.length 8)) (bnds (srtV l) l.length 8).length 0=true:=by
   rw [zpR]
   refine zzV.2 fun k _ hk8=> ?_
   unfold srtB
   by_cases hk0:k=0
   ·simp [hk0]
   ·rw [decide_eq_false hk0,Bool.false_or,decide_eq_true_eq,zz6 _ _ (by omega),zz6 _ _ (by omega)]
    refine zEx ha ?_ (by rw [hs]; exact hin k (by omega))
    have:(k - 1+1)*l.length≤(k+1)*l.length:=Nat.mul_le_mul (by omega) (Nat.le_refl _)
    omega
  unfold okC
  rw [if_neg (by omega)]
  simp only [Bool.and_eq_true,decide_eq_true_eq]
  exact ⟨by omega,by omega,h0k.1,hnk.1,by rw [h0k.2,hnk.2],zEx ha (by omega) (by omega),zpR _ _ _,b7,ball,b0,bs⟩
theorem zJ0 {t:Table} (h:okT t=true) {k:Nat} (hk:k<t.Columns.length):∀ v∈colV t.Rows k,zir (t.Columns.getD k default).Type_ v=true:=fun v hv=>by
 unfold colV at hv
 obtain ⟨r,hr,rfl⟩:=List.mem_map.1 hv
 unfold okT at h
 simp only [Bool.and_eq_true,List.all_eq_true] at h
 have:=h.2 r hr
 unfold fitR at this
 simp only [Bool.and_eq_true,decide_eq_true_eq] at this
 exact zzV.1 this.2 k (by omega) (by omega)
theorem zLv (t:Table) (hr:t.Rows.length≤1000):okS (gatR t)=true:=by
 unfold gatR
 cases h:okT t with
 | false=>rfl
 | true=>
  rw [cond_true]
  unfold okS
  simp only [Bool.and_eq_true,decide_eq_true_eq,List.all_eq_true]
  refine ⟨by omega,by omega,by rw [zrp]; exact zDf h,fun c hc=> ?_⟩
  unfold zh1 at hc
  obtain ⟨k,hk,rfl⟩:=List.mem_map.1 hc
  have hcl:(colV t.Rows k).length=t.Rows.length:=by simp [colV]
  have:=zKG (colV t.Rows k) _ (by omega) (zJ0 h (List.mem_range.1 hk))
  rw [hcl] at this
  exact this
theorem zI4 (t:Table) (hc:t.Columns.length≤1000):(gatR t).Columns.length≤1000∧∀ c∈(gatR t).Columns,c.Bounds.length≤8:=by
 unfold gatR
 cases h:okT t with
 | false=>exact ⟨by simp,fun c hc=>by simp at hc⟩
 | true=>
  refine ⟨by rw [cond_true,zrp]; exact hc,fun c hc=> ?_⟩
  rw [cond_true] at hc
  unfold zh1 at hc
  obtain ⟨k,hk,rfl⟩:=List.mem_map.1 hc
  unfold colR
  split
  ·simp
  ·rw [zpR]; exact Nat.le_refl _
theorem zGV (t:Table) (ht:wf25 t):zeq t=(true,true):=by
 obtain ⟨b,b1,b2⟩:=zK9 t ht
 have l5:t.Rows.length≤12∧t.Columns.length≤20→zm5 1 t=(true,true):=fun h=>by
  show (zji t).ev (zN zg2 default 0) (fun r=>(true,r)) (false,default)=_
  unfold zji
  have hs:=zI4 t (by omega)
  simp only [Wy.ev_i,Wy.ev_k,Wy.ev_bn,zJH t (by omega) (by omega),zDU t (by omega) (by omega),zHz (gatR t) (by omega) (fun c hc=>by have:=hs.2 c hc; omega),zAX,zLv t (by omega),cond_true]
 have l3:znn 1 t=(true,true):=by
  show (zjf t).ev (zN zg1 default 0) (fun r=>(true,r)) (false,default)=_
  unfold zjf
  simp only [Wy.ev_i,Wy.ev_k,Wy.ev_bn,b1,cond_true]
  cases b with
  | false=>rfl
  | true=>rw [l5 (b2 rfl)]; rfl
 unfold zeq zjJ
 rw [Wy.fin_bn,l3]
 rfl
end Go.Proofs.YtddkaehkimnklaaGreatDoor
end
