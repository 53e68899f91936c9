/- Texts of this claim, joined (the program, its functions in plain words, and what they compute). -/
import Derived.Test.YtoknknbmfmddbaaGreatDoorGC5
set_option autoImplicit false
set_option linter.unusedVariables false
set_option linter.unusedSectionVars false
set_option linter.unusedSimpArgs false
set_option maxRecDepth 1000000
set_option maxHeartbeats 0
/- What the laws examine: annotations of small weight. -/
noncomputable section
namespace Go.Proofs.YtoknknbmfmddbaaGreatDoor
open Go Go.Ab
theorem zoC:∀ {l:yC},ztk l->∀ x∈l,zwg x
 | [],_,x,hx=>by cases hx
 | y::r,h,x,hx=>by
  unfold ztk at h;rcases qd.1 hx with rfl | hx
  ·exact h.1
  ·exact zoC h.2 x hx
theorem zs8:∀ {l:yB},zg5 l->∀ x∈l,zAU x
 | [],_,x,hx=>by cases hx
 | y::r,h,x,hx=>by
  unfold zg5 at h;rcases qd.1 hx with rfl | hx
  ·exact h.1
  ·exact zs8 h.2 x hx
theorem zkl:∀ {l:yA},zwT l->∀ x∈l,zg5 x/\x.length<=zW
 | [],_,x,hx=>by cases hx
 | y::r,h,x,hx=>by
  unfold zwT at h;rcases qd.1 hx with rfl | hx
  ·exact h.1
  ·exact zkl h.2 x hx
theorem zkc:∀ {l:yD},zsM l->∀ x∈l,zNc x.Value/\zg5 x.Ann/\x.Ann.length<=zW
 | [],_,x,hx=>by cases hx
 | y::r,h,x,hx=>by
  unfold zsM at h;rcases qd.1 hx with rfl | hx
  ·have:=h.1; unfold zGH at this; exact ⟨this.1,this.2.1,this.2.2⟩
  ·exact zkc h.2 x hx
theorem zvJ {t:Term} (h:zAU t):wf2 t.Cf/\ztk t.Fs/\t.Fs.length<=zW:=by
 unfold zAU at h; exact ⟨h.1,h.2.1,h.2.2⟩
theorem zrm {t:Fc} (h:zwg t):zgS t.At/\wf3 t.Exp:=by
 unfold zwg at h; exact h
theorem ztz {x:At} (h:zgS x):(zwT x.Ag/\x.Ag.length<=zW)/\(zsM x.Items/\x.Items.length<=zW)/\zNc x.Bd/\wf3 x.Kind/\zXc x.Row/\wf3 x.Func/\wf3 x.Op:=by
 obtain ⟨k,r,a,f,i,o,b⟩:=x; unfold zgS at h; exact ⟨h.2.2.1,h.2.2.2.2.1,h.2.2.2.2.2.2,h.1,h.2.1,h.2.2.2.1,h.2.2.2.2.2.1⟩
theorem zbM {z:Int} (h0: -4611686018427387904<=z) (h:z<4611686018427387904):IntKind.i64.wrap z=z:=zU5 (by omega) (by omega)
mutual
def zEW:At->Nat
 | ⟨_,_,a,_,i,_,b⟩=>i.length+a.length+b.Text.size+zqI a+zln i
def zhL:yC->Nat
 | []=>0
 | ⟨x,_⟩::r=>zEW x+zhL r
def zex:yB->Nat
 | []=>0
 | ⟨_,fs⟩::r=>1+fs.length+zhL fs+zex r
def zqI:yA->Nat
 | []=>0
 | a::r=>zex a+zqI r
def zln:yD->Nat
 | []=>0
 | ⟨v,a⟩::r=>v.Text.size+zex a+zln r
end
theorem zZc (x:At):zEW x=x.Items.length+x.Ag.length+x.Bd.Text.size+zqI x.Ag+zln x.Items:=by cases x; rw [zEW]
theorem zLA (f:Fc) (r:yC):zhL (f::r)=zEW f.At+zhL r:=by cases f; rw [zhL]
theorem zMN (t:Term) (r:yB):zex (t::r)=1+t.Fs.length+zhL t.Fs+zex r:=by cases t; rw [zex]
theorem zUG (a:yB) (r:yA):zqI (a::r)=zex a+zqI r:=by rw [zqI]
theorem zHt (w:Wd) (r:yD):zln (w::r)=w.Value.Text.size+zex w.Ann+zln r:=by cases w; rw [zln]
theorem z4H:zqI []=0:=by rw [zqI]
theorem z33:zln []=0:=by rw [zln]
theorem zZE:zhL []=0:=by rw [zhL]
theorem z7b:zex []=0:=by rw [zex]
section
variable (g:yB->Int->Int->Bool×Int) (a:yB) (limit d:Nat) (hl:limit<=1000) (hd:d<=100) (B:Nat) (hB:B<=1152921504606846976) (P:yB->Prop)
include hl hd hB
theorem w14 (x:At) (i k:Int) (hlen:x.Ag.length<=zW) (hg:∀ y∈x.Ag,∀ l:Nat,l<=1000->∃ w:Nat,g y l d=(true,(w:Int))/\w<=B/\(w<=l->P y/\zex y<=w)):
  ∀ (fuel j n:Nat),x.Ag.length<j+fuel->j<=x.Ag.length->n<=2305843009213693952->∃ n':Nat,zyB g fuel a limit (d+1:Nat) n i k j x=(true,(a,(limit:Int),((d+1:Nat):Int),(n':Int),i,k,x))/\n<=n'/\n'<=max n (limit+B)/\(n'<=limit->(∀ y∈x.Ag.drop j,P y)/\n+zqI (x.Ag.drop j)<=n')
 | 0,j,n,h1,h2,h3=>by omega
 | fuel+1,j,n,h1,h2,h3=>by
  show ∃ n':Nat,(zyH g a limit (d+1:Nat) n i k j x).ev (λx y=>zyB g fuel x.1 x.2.1 x.2.2.1 x.2.2.2.1 x.2.2.2.2.1 x.2.2.2.2.2.1 x.2.2.2.2.2.2.2.1 y.1) (λr=>(true,r)) (false,default)=_/\_
  unfold zyH;have hml:zW=140737488351232:=rfl;by_cases hj:j<x.Ag.length
  ·by_cases hn:n<=limit
   ·have e1:IntKind.i64.wrap ((limit:Int) - (n:Int))=((limit - n:Nat):Int):=by rw [zbM (by omega) (by omega)]; omega
    obtain ⟨w,hw,hwB,hwP⟩:=hg _ (zl hj) (limit - n) (by omega)
    have ed:IntKind.i64.wrap (((d+1:Nat):Int) - 1)=(d:Int):=by rw [zbM (by omega) (by omega)]; omega
    simp only [Wy.ev_i,Wy.ev_k,Wy.ev_h,Wy.ev_bn,Wy.ev_d,tT,hj,zuS,hn,e1,ed,hw];have e3:IntKind.i64.wrap ((n:Int)+(w:Int))=((n+w:Nat):Int):=by rw [zbM (by omega) (by omega)]; omega
    rw [e3,zB (by omega)]
    obtain ⟨n',h4,h5,h6,h7⟩:=w14 x i k hlen hg fuel (j+1) (n+w) (by omega) (by omega) (by omega)
    refine ⟨n',h4,by omega,by omega,λhn'=> ?_⟩
    obtain ⟨h8,h9⟩:=h7 hn';obtain ⟨p1,p2⟩:=hwP (by omega)
    rw [zbl hj,zUG];refine ⟨λy hy=> ?_,by omega⟩
    rcases qd.1 hy with rfl | hy
    ·exact p1
    ·exact h8 y hy
   ·simp only [Wy.ev_i,Wy.ev_k,Wy.ev_h,Wy.ev_bn,Wy.ev_d,tT,hj,zuS,hn];exact ⟨n,rfl,Nat.le_refl _,by omega,λh=>absurd h hn⟩
  ·simp only [Wy.ev_i,Wy.ev_k,Wy.ev_h,Wy.ev_bn,Wy.ev_d,tT,hj];exact ⟨n,rfl,Nat.le_refl _,by omega,λ_=>by rw [zdc hj,z4H]; exact ⟨λy hy=>(by cases hy),Nat.le_refl _⟩⟩
theorem w18 (x:At) (i k:Int) (hlen:x.Items.length<=zW) (hg:∀ y∈x.Items,y.Value.Text.size<=zW/\∀ l:Nat,l<=1000->∃ w:Nat,g y.Ann l d=(true,(w:Int))/\w<=B/\(w<=l->P y.Ann/\zex y.Ann<=w)):
  ∀ (fuel j n:Nat),x.Items.length<j+fuel->j<=x.Items.length->n<=2305843009213693952->∃ n':Nat,zyx g fuel a limit (d+1:Nat) n i k j x=(true,(a,(limit:Int),((d+1:Nat):Int),(n':Int),i,k))/\n<=n'/\n'<=max n (limit+zW+B)/\(n'<=limit->(∀ y∈x.Items.drop j,y.Value.Text.size<=1000/\P y.Ann)/\n+zln (x.Items.drop j)<=n')
 | 0,j,n,h1,h2,h3=>by omega
 | fuel+1,j,n,h1,h2,h3=>by
  show ∃ n':Nat,(zyv g a limit (d+1:Nat) n i k j x).ev (λx y=>zyx g fuel x.1 x.2.1 x.2.2.1 x.2.2.2.1 x.2.2.2.2.1 x.2.2.2.2.2.1 x.2.2.2.2.2.2.2.1 y.1) (λr=>(true,r)) (false,default)=_/\_
  unfold zyv;have hml:zW=140737488351232:=rfl;by_cases hj:j<x.Items.length
  ·by_cases hn:n<=limit
   ·have e1:IntKind.i64.wrap ((limit:Int) - (n:Int))=((limit - n:Nat):Int):=by rw [zbM (by omega) (by omega)]; omega
    obtain ⟨ht,hgy⟩:=hg _ (zl hj);obtain ⟨w,hw,hwB,hwP⟩:=hgy (limit - n) (by omega)
    have ed:IntKind.i64.wrap (((d+1:Nat):Int) - 1)=(d:Int):=by rw [zbM (by omega) (by omega)]; omega
    simp only [Wy.ev_i,Wy.ev_k,Wy.ev_h,Wy.ev_bn,Wy.ev_d,tT,hj,zuS,hn,e1,ed,hw];generalize hsz:(x.Items.getD j default).Value.Text.size=sz at *;have e3:IntKind.i64.wrap (IntKind.i64.wrap ((n:Int)+(sz:Int))+(w:Int))=((n+sz+w:Nat):Int):=by rw [zbM (z:=(n:Int)+(sz:Int)) (by omega) (by omega),zbM (by omega) (by omega)]; omega
    rw [e3,zB (by omega)]
    obtain ⟨n',h4,h5,h6,h7⟩:=w18 x i k hlen hg fuel (j+1) (n+sz+w) (by omega) (by omega) (by omega)
    refine ⟨n',h4,by omega,by omega,λhn'=> ?_⟩
    obtain ⟨h8,h9⟩:=h7 hn';obtain ⟨p1,p2⟩:=hwP (by omega)
    rw [zbl hj,zHt];refine ⟨λy hy=> ?_,by omega⟩
    rcases qd.1 hy with rfl | hy
    ·exact ⟨by omega,p1⟩
    ·exact h8 y hy
   ·simp only [Wy.ev_i,Wy.ev_k,Wy.ev_h,Wy.ev_bn,Wy.ev_d,tT,hj,zuS,hn];exact ⟨n,rfl,Nat.le_refl _,by omega,λh=>absurd h hn⟩
  ·simp only [Wy.ev_i,Wy.ev_k,Wy.ev_h,Wy.ev_bn,Wy.ev_d,tT,hj];exact ⟨n,rfl,Nat.le_refl _,by omega,λ_=>by rw [zdc hj,z33]; exact ⟨λy hy=>(by cases hy),Nat.le_refl _⟩⟩
theorem w9 (i:Nat) (hi:i<a.length) (hla:(a.getD i default).Fs.length<=zW) (hg:∀ f∈(a.getD i default).Fs,f.At.Ag.length<=zW/\f.At.Items.length<=zW/\f.At.Bd.Text.size<=zW/\(∀ y∈f.At.Ag,∀ l:Nat,l<=1000->∃ w:Nat,g y l d=(true,(w:Int))/\w<=B/\(w<=l->P y/\zex y<=w))/\
   ∀ y∈f.At.Items,y.Value.Text.size<=zW/\∀ l:Nat,l<=1000->∃ w:Nat,g y.Ann l d=(true,(w:Int))/\w<=B/\(w<=l->P y.Ann/\zex y.Ann<=w)):
  ∀ (fuel k n:Nat),(a.getD i default).Fs.length<k+fuel->k<=(a.getD i default).Fs.length->n<=2305843009213693952->∃ n':Nat,zAk g fuel a limit (d+1:Nat) n i k=(true,(a,(limit:Int),((d+1:Nat):Int),(n':Int),(i:Int)))/\n<=n'/\n'<=max n (limit+4*zW+B)/\
   (n'<=limit->(∀ f∈(a.getD i default).Fs.drop k,(f.At.Ag.length<=1000/\f.At.Items.length<=1000/\f.At.Bd.Text.size<=1000)/\(∀ y∈f.At.Ag,P y)/\∀ y∈f.At.Items,y.Value.Text.size<=1000/\P y.Ann)/\n+zhL ((a.getD i default).Fs.drop k)<=n')
 | 0,k,n,h1,h2,h3=>by omega
 | fuel+1,k,n,h1,h2,h3=>by
  show ∃ n':Nat,(zAf g a limit (d+1:Nat) n i k).ev (λx y=>zAk g fuel x.1 x.2.1 x.2.2.1 x.2.2.2.1 x.2.2.2.2.1 x.2.2.2.2.2.1) (λr=>(true,r)) (false,default)=_/\_
  unfold zAf;have hml:zW=140737488351232:=rfl;by_cases hk:k<(a.getD i default).Fs.length
  ·by_cases hn:n<=limit
   ·simp only [Wy.ev_i,Wy.ev_k,Wy.ev_h,Wy.ev_bn,Wy.ev_d,tT,hi,hk,zuS,hn,At.eta];obtain ⟨ha1,ha2,ha3,hgA,hgI⟩:=hg _ (zl hk);generalize hf:((a.getD i default).Fs.getD k default)=f at *
    have e0:IntKind.i64.wrap (IntKind.i64.wrap (IntKind.i64.wrap ((n:Int)+(f.At.Items.length:Int))+(f.At.Ag.length:Int))+(f.At.Bd.Text.size:Int))=((n+f.At.Items.length+f.At.Ag.length+f.At.Bd.Text.size:Nat):Int):=by
     rw [zbM (z:=(n:Int)+(f.At.Items.length:Int)) (by omega) (by omega),zbM (z:=(n:Int)+(f.At.Items.length:Int)+(f.At.Ag.length:Int)) (by omega) (by omega),zbM (by omega) (by omega)]; omega
    rw [e0];obtain ⟨n1,q1,q2,q3,q4⟩:=w14 g a limit d hl hd B hB P f.At i k ha1 hgA (a.length+limit+(d+1)+((n+f.At.Items.length+f.At.Ag.length+f.At.Bd.Text.size:Nat):Int).toNat +i+k+Int.toNat 0+f.At.Ag.length+f.At.Items.length+1) 0 (n+f.At.Items.length+f.At.Ag.length+f.At.Bd.Text.size) (by omega) (by omega) (by omega)
    rw [show ((0:Nat):Int)=(0:Int) from rfl] at q1
    rw [q1];simp only [cond_true,At.eta,Int.toNat_natCast];obtain ⟨n2,r1,r2,r3,r4⟩:=w18 g a limit d hl hd B hB P f.At i k ha2 hgI (a.length+limit+(d+1)+n1+i+k+Int.toNat 0+f.At.Ag.length+f.At.Items.length+1) 0 n1 (by omega) (by omega) (by omega)
    rw [show ((0:Nat):Int)=(0:Int) from rfl] at r1
    rw [r1];simp only [cond_true];rw [zB (by omega)]
    obtain ⟨n',h4,h5,h6,h7⟩:=w9 i hi hla hg fuel (k+1) n2 (by omega) (by omega) (by omega)
    refine ⟨n',h4,by omega,by omega,λhn'=> ?_⟩
    obtain ⟨h8,h9⟩:=h7 hn';obtain ⟨q5,q6⟩:=q4 (by omega)
    obtain ⟨r5,r6⟩:=r4 (by omega)
    rw [List.drop_zero] at q5 q6 r5 r6;rw [zbl hk,zLA,hf,zZc];refine ⟨λy hy=> ?_,by omega⟩
    rcases qd.1 hy with rfl | hy
    ·exact ⟨⟨by omega,by omega,by omega⟩,q5,r5⟩
    ·exact h8 y hy
   ·simp only [Wy.ev_i,Wy.ev_k,Wy.ev_h,Wy.ev_bn,Wy.ev_d,tT,hi,hk,zuS,hn];exact ⟨n,rfl,Nat.le_refl _,by omega,λh=>absurd h hn⟩
  ·simp only [Wy.ev_i,Wy.ev_k,Wy.ev_h,Wy.ev_bn,Wy.ev_d,tT,hi,hk];exact ⟨n,rfl,Nat.le_refl _,by omega,λ_=>by rw [zdc hk,zZE]; exact ⟨λy hy=>(by cases hy),Nat.le_refl _⟩⟩
theorem w5 (hla:∀ t∈a,t.Fs.length<=zW) (hg:∀ t∈a,∀ f∈t.Fs,f.At.Ag.length<=zW/\f.At.Items.length<=zW/\f.At.Bd.Text.size<=zW/\(∀ y∈f.At.Ag,∀ l:Nat,l<=1000->∃ w:Nat,g y l d=(true,(w:Int))/\w<=B/\(w<=l->P y/\zex y<=w))/\
   ∀ y∈f.At.Items,y.Value.Text.size<=zW/\∀ l:Nat,l<=1000->∃ w:Nat,g y.Ann l d=(true,(w:Int))/\w<=B/\(w<=l->P y.Ann/\zex y.Ann<=w)) (hlen:a.length<=zW):
  ∀ (fuel i n:Nat),a.length<i+fuel->i<=a.length->n<=2305843009213693952->∃ n':Nat,zAy g fuel a limit (d+1:Nat) n i=(true,(n':Int))/\n<=n'/\n'<=max n (limit+6*zW+B)/\
   (n'<=limit->(n+(a.length - i)<=n'/\n+zex (a.drop i)<=n')/\∀ t∈a.drop i,t.Fs.length<=1000/\∀ f∈t.Fs,(f.At.Ag.length<=1000/\f.At.Items.length<=1000/\f.At.Bd.Text.size<=1000)/\(∀ y∈f.At.Ag,P y)/\∀ y∈f.At.Items,y.Value.Text.size<=1000/\P y.Ann)
 | 0,i,n,h1,h2,h3=>by omega
 | fuel+1,i,n,h1,h2,h3=>by
  show ∃ n':Nat,(zAn g a limit (d+1:Nat) n i).ev (λx y=>zAy g fuel x.1 x.2.1 x.2.2.1 x.2.2.2.1 x.2.2.2.2.1) (λr=>(true,r)) (false,default)=_/\_
  unfold zAn;have hml:zW=140737488351232:=rfl;by_cases hi:i<a.length
  ·by_cases hn:n<=limit
   ·simp only [Wy.ev_i,Wy.ev_k,Wy.ev_h,Wy.ev_bn,Wy.ev_d,tT,hi,zuS,hn];have hla':=hla _ (zl hi)
    have e0:IntKind.i64.wrap (IntKind.i64.wrap ((n:Int)+1)+((a.getD i default).Fs.length:Int))=((n+1+(a.getD i default).Fs.length:Nat):Int):=by
     rw [zB (by omega),zbM (by omega) (by omega)]; omega
    rw [e0];obtain ⟨n1,q1,q2,q3,q4⟩:=w9 g a limit d hl hd B hB P i hi hla' (hg _ (zl hi)) (a.length+limit+(d+1)+((n+1+(a.getD i default).Fs.length:Nat):Int).toNat +i+Int.toNat 0+1) 0 (n+1+(a.getD i default).Fs.length) (by omega) (by omega) (by omega)
    rw [show ((0:Nat):Int)=(0:Int) from rfl] at q1
    rw [q1];simp only [cond_true];rw [zB (by omega)]
    obtain ⟨n',h4,h5,h6,h7⟩:=w5 hla hg hlen fuel (i+1) n1 (by omega) (by omega) (by omega)
    refine ⟨n',h4,by omega,by omega,λhn'=> ?_⟩
    obtain ⟨⟨h8,h10⟩,h9⟩:=h7 hn';obtain ⟨q5,q6⟩:=q4 (by omega)
    rw [List.drop_zero] at q5 q6;rw [zbl hi,zMN];refine ⟨⟨by omega,by omega⟩,λy hy=> ?_⟩
    rcases qd.1 hy with rfl | hy
    ·exact ⟨by omega,q5⟩
    ·exact h9 y hy
   ·simp only [Wy.ev_i,Wy.ev_k,Wy.ev_h,Wy.ev_bn,Wy.ev_d,tT,hi,zuS,hn];exact ⟨n,rfl,Nat.le_refl _,by omega,λh=>absurd h hn⟩
  ·simp only [Wy.ev_i,Wy.ev_k,Wy.ev_h,Wy.ev_bn,Wy.ev_d,tT,hi];exact ⟨n,rfl,Nat.le_refl _,by omega,λ_=>by rw [zdc hi,z7b]; exact ⟨⟨by omega,Nat.le_refl _⟩,λy hy=>(by cases hy)⟩⟩
end
theorem z0R:∀ (d N:Nat),d<N->d<=12->∀ (l:Nat),l<=1000->∀ a,zg5 a->a.length<=zW->∃ w:Nat,zqJ N a l d=(true,(w:Int))/\w<=(d+1)*4503599627370496/\(w<=l->zo d a/\zex a<=w)
 | _,0,h,_,_,_,_,_,_=>by omega
 | 0,N+1,_,_,l,hl,a,hw,hlen=>by
  rw [zHQ];unfold zuJ zBs;refine ⟨l+1, ?_,by omega,λh=>by omega⟩
  simp only [Wy.fin_i,Wy.fin_k];rw [zB (by omega)]; rfl
 | d+1,N+1,hN,hd,l,hl,a,hw,hlen=>by
  rw [zHQ];unfold zuJ zBs;have hml:zW=140737488351232:=rfl;have ih:=λy (h1:zg5 y) (h2:y.length<=zW) l hl=>z0R d N (by omega) (by omega) l hl y h1 h2
  have e0:(((d+1:Nat):Int)==(0:Int))=false:=by
   rw [beq_eq_false_iff_ne]; omega
  obtain ⟨n',h1,h2,h3,h4⟩:=w5 (zqJ N) a l d hl (by omega) ((d+1)*4503599627370496) (by omega) (zo d) (λt ht=>(zvJ (zs8 hw t ht)).2.2) (λt ht f hf=>by
   have hx:=ztz (zrm (zoC (zvJ (zs8 hw t ht)).2.1 f hf)).1;refine ⟨hx.1.2,hx.2.1.2,hx.2.2.1.2.2,λy hy l hl=> ?_,λy hy=> ?_⟩
   ·have:=zkl hx.1.1 y hy;exact ih y this.1 this.2 l hl
   ·have:=zkc hx.2.1.1 y hy;exact ⟨this.1.2.2,λl hl=>ih y.Ann this.2.1 this.2.2 l hl⟩) hlen (a.length+l+(d+1)+Int.toNat 0+Int.toNat 0+1) 0 0 (by omega) (by omega) (by omega)
  rw [show ((0:Nat):Int)=(0:Int) from rfl] at h1
  refine ⟨n', ?_,by omega,λhn=> ?_⟩
  ·simp only [Wy.fin_i,Wy.fin_k,Wy.fin_bn,e0,cond_false,Int.toNat_natCast,h1,cond_true]
  ·obtain ⟨⟨h5,h12⟩,h6⟩:=h4 hn;rw [List.drop_zero] at h12;refine ⟨⟨by omega,λt ht=> ?_⟩,by omega⟩
   obtain ⟨h7,h8⟩:=h6 t (by simpa using ht)
   refine ⟨by omega,λf hf=> ?_⟩
   obtain ⟨h9,h10,h11⟩:=h8 f hf;exact ⟨⟨by omega,by omega,by omega⟩,h10,λw hw=>⟨by have:=(h11 w hw).1; omega,(h11 w hw).2⟩⟩
theorem z3I (limit:Nat) (hl:limit<=1000) (l:yA) (hll:l.length<=1000) (hw:∀ a∈l,zg5 a/\a.length<=zW):∀ (n i:Nat),l.length<i+n->i<=l.length->∃ r,zKq n limit l i=(true,r)/\((r=.inl false)\/(r=.inr ()/\∀ a∈l.drop i,zo 12 a/\zex a<=limit))
 | 0,i,h1,h2=>by omega
 | n+1,i,h1,h2=>by
  show ∃ r,(zJ0 limit l i).ev (λx y=>zKq n x.1 x.2.1 x.2.2.1) (λr=>(true,r)) (false,.inl default)=(true,r)/\_
  unfold zJ0;by_cases hi:i<l.length
  ·obtain ⟨w,q1,q2,q3⟩:=z0R 12 1000 (by omega) (by omega) limit hl _ (hw _ (zl hi)).1 (hw _ (zl hi)).2
   have q1':zJV (l.getD i default) (limit:Int) 12=(true,(w:Int)):=q1;simp only [Wy.ev_i,Wy.ev_k,Wy.ev_h,Wy.ev_bn,Wy.ev_d,tT,hi,q1',zly];by_cases hg:limit<w
   ·simp only [hg,decide_true,cond_true];exact ⟨_,rfl,.inl rfl⟩
   ·simp only [hg,decide_false,cond_false];rw [zB (by omega)]
    obtain ⟨r,h3,h4⟩:=z3I limit hl l hll hw n (i+1) (by omega) (by omega)
    refine ⟨r,h3, ?_⟩;rcases h4 with h4 | ⟨h4,h5⟩
    ·exact .inl h4
    ·refine .inr ⟨h4,λa ha=> ?_⟩
     rw [zbl hi] at ha;rcases qd.1 ha with rfl | ha
     ·exact ⟨(q3 (by omega)).1,by have:=(q3 (by omega)).2; omega⟩
     ·exact h5 a ha
  ·simp only [Wy.ev_i,Wy.ev_k,Wy.ev_h,Wy.ev_bn,Wy.ev_d,tT,hi];exact ⟨_,rfl,.inr ⟨rfl,λa ha=>by rw [zdc hi] at ha; cases ha⟩⟩
theorem zbdj (limit:Nat) (hl:limit<=1000) (l:yA) (hll:l.length<=1000) (hw:∀ a∈l,zg5 a/\a.length<=zW):∃ b,zBQ limit l=(true,b)/\(b=true->∀ a∈l,zo 12 a/\zex a<=limit):=by
 unfold zBQ zWc;obtain ⟨r,h1,h2⟩:=z3I limit hl l hll hw (limit+l.length+Int.toNat 0+1) 0 (by omega) (by omega)
 rw [show ((0:Nat):Int)=(0:Int) from rfl] at h1
 rw [Wy.fin_bn];simp only [Int.toNat_natCast,h1,cond_true];rcases h2 with rfl | ⟨rfl,h2⟩
 ·exact ⟨false,rfl,λh=>by cases h⟩
 ·exact ⟨true,rfl,λ_ a ha=>h2 a (by simpa using ha)⟩
end Go.Proofs.YtoknknbmfmddbaaGreatDoor
/- What lies inside lists of terms and factors: fuel for loops. -/
namespace Go.Proofs.YtoknknbmfmddbaaGreatDoor
def z3E:yC->Nat
 | []=>0
 | f::r=>f.Exp.toNat +f.At.Ag.length+f.At.Items.length+1+z3E r
def zgV:yB->Nat
 | []=>0
 | t::r=>z3E t.Fs+1+zgV r
end Go.Proofs.YtoknknbmfmddbaaGreatDoor
namespace Go.Proofs.YtoknknbmfmddbaaGreatDoor
open Go Go.Ab
abbrev zA8:=yB×Int×Int×Int×Unit×Int×Unit
abbrev z11:=yB×Int×Int×Int×At
abbrev z1P:=yB×Int×Int×Int
abbrev zQ7:=yB×Int×Int×Int×Unit
abbrev z2a:=yB×Int×Int
abbrev zRr:=yB×Int×Int×Unit
def zrx (zbF:yB->Bool×Int) (a:yB) (n_:Int) (i:Int) (k:Int) (j:Int) (x_:At):Wy zA8 (At×Unit) z11:=.i (decide (j<Int.ofNat x_.Ag.length)) (.i (decide (0<=j)&&decide (j<Int.ofNat x_.Ag.length)) (.bn (zbF (x_.Ag.getD j.toNat default)) λr0=>.h (a,(IntKind.i64.wrap (n_+r0)),i,k,(),(IntKind.i64.wrap (j+1)),()) (x_,())) .d) (.k (a,n_,i,k,x_))
def zIZ (zbF:yB->Bool×Int) (x:zA8) (y:At×Unit):=zrx zbF x.1 x.2.1 x.2.2.1 x.2.2.2.1 x.2.2.2.2.2.1 y.1
def zJS (zbF:yB->Bool×Int) (n:Nat) (a:yB) (n_:Int) (i:Int) (k:Int) (j:Int) (x_:At):=zA (zIZ zbF) default n (a,n_,i,k,(),j,()) (x_,())
def zrs (zbF:yB->Bool×Int) (a:yB) (n_:Int) (i:Int) (k:Int) (j:Int) (x_:At):Wy zA8 (At×Unit) z1P:=.i (decide (j<Int.ofNat x_.Items.length)) (.i (decide (0<=j)&&decide (j<Int.ofNat x_.Items.length)) (.bn (zbF (x_.Items.getD j.toNat default).Ann) λr2=>.h (a,(IntKind.i64.wrap (IntKind.i64.wrap (n_+1)+r2)),i,k,(),(IntKind.i64.wrap (j+1)),()) (x_,())) .d) (.k (a,n_,i,k))
def zJh (zbF:yB->Bool×Int) (x:zA8) (y:At×Unit):=zrs zbF x.1 x.2.1 x.2.2.1 x.2.2.2.1 x.2.2.2.2.2.1 y.1
def zJv (zbF:yB->Bool×Int) (n:Nat) (a:yB) (n_:Int) (i:Int) (k:Int) (j:Int) (x_:At):=zA (zJh zbF) default n (a,n_,i,k,(),j,()) (x_,())
def ztG (zbF:yB->Bool×Int) (a:yB) (n_:Int) (i:Int) (k:Int):Wy zQ7 Unit z2a:=.i (decide (0<=i)&&decide (i<Int.ofNat a.length)) (.i (decide (k<Int.ofNat (a.getD i.toNat default).Fs.length)) (.i (decide (0<=i)&&decide (i<Int.ofNat a.length)) (.i (decide (0<=k)&&decide (k<Int.ofNat (a.getD i.toNat default).Fs.length)) (.bn (zJS zbF ((a.length+(IntKind.i64.wrap (n_+1)).toNat +i.toNat +k.toNat +Int.toNat 0+((a.getD i.toNat default).Fs.getD k.toNat default).At.Ag.length+((a.getD i.toNat default).Fs.getD k.toNat default).At.Items.length+1)+zgV a) a (IntKind.i64.wrap (n_+1)) i k 0 (At.mk ((a.getD i.toNat default).Fs.getD k.toNat default).At.Kind ((a.getD i.toNat default).Fs.getD k.toNat default).At.Row ((a.getD i.toNat default).Fs.getD k.toNat default).At.Ag ((a.getD i.toNat default).Fs.getD k.toNat default).At.Func ((a.getD i.toNat default).Fs.getD k.toNat default).At.Items ((a.getD i.toNat default).Fs.getD k.toNat default).At.Op ((a.getD i.toNat default).Fs.getD k.toNat default).At.Bd)) λr5=>.bn (zJv zbF ((r5.1.length+r5.2.1.toNat +r5.2.2.1.toNat +r5.2.2.2.1.toNat +Int.toNat 0+r5.2.2.2.2.Ag.length+r5.2.2.2.2.Items.length+1)+zgV r5.1) r5.1 r5.2.1 r5.2.2.1 r5.2.2.2.1 0 (At.mk r5.2.2.2.2.Kind r5.2.2.2.2.Row r5.2.2.2.2.Ag r5.2.2.2.2.Func r5.2.2.2.2.Items r5.2.2.2.2.Op r5.2.2.2.2.Bd)) λr4=>.h ((r4.1),(r4.2.1),(r4.2.2.1),(IntKind.i64.wrap (r4.2.2.2+1)),()) ()) .d) .d) (.k (a,n_,i))) .d
def zL9 (zbF:yB->Bool×Int) (x:zQ7) (y:Unit):=ztG zbF x.1 x.2.1 x.2.2.1 x.2.2.2.1
def zLY (zbF:yB->Bool×Int) (n:Nat) (a:yB) (n_:Int) (i:Int) (k:Int):=zA (zL9 zbF) default n (a,n_,i,k,()) ()
def ztm (zbF:yB->Bool×Int) (a:yB) (n_:Int) (i:Int):Wy zRr Unit (Int):=.i (decide (i<Int.ofNat a.length)) (.bn (zLY zbF ((a.length+(IntKind.i64.wrap (n_+1)).toNat +i.toNat +Int.toNat 0+1)+zgV a) a (IntKind.i64.wrap (n_+1)) i 0) λr8=>.h ((r8.1),(r8.2.1),(IntKind.i64.wrap (r8.2.2+1)),()) ()) (.k n_)
def zLM (zbF:yB->Bool×Int) (x:zRr) (y:Unit):=ztm zbF x.1 x.2.1 x.2.2.1
def zLZ (zbF:yB->Bool×Int) (n:Nat) (a:yB) (n_:Int) (i:Int):=zA (zLM zbF) default n (a,n_,i,()) ()
def zNX (zbF:yB->Bool×Int) (a:yB):Wy0 (Int):=.bn (zLZ zbF ((a.length+Int.toNat 0+Int.toNat 0+1)+zgV a) a 0 0) λr10=>.k r10
def zJw (zbF:yB->Bool×Int) (a:yB):=(zNX zbF a).fin default
def z0U:Nat->(yB->Bool×Int)
 | 0=>λ_=>(false,default)
 | n+1=>zJw (z0U n)
def zyK (n:Nat):yB->Bool×Int:=z0U n
theorem zYl (n:Nat):zyK (n+1)=zJw (zyK n):=rfl
def zYD:yB->Bool×Int:=zyK 1000
abbrev zvY:=yB×Int×Int×Int×Unit×Int×Int×Unit
abbrev zXb:=yB×Int×Int×Int×Int×At
abbrev zXm:=yB×Int×Int×Int×Int
abbrev zJl:=yB×Int×Int×Int×Unit
abbrev zXl:=yB×Int×Int
abbrev zKE:=yB×Int×Int×Unit
def zmj (zbd:yB->Bool×Int) (a:yB) (most:Int) (i:Int) (k:Int) (n_:Int) (j:Int) (x_:At):Wy zvY (At×Unit) zXb:=.i (decide (j<Int.ofNat x_.Ag.length)) (.i (decide (0<=j)&&decide (j<Int.ofNat x_.Ag.length)) (.bn (zbd (x_.Ag.getD j.toNat default)) λr0=>.h (a,most,i,k,(),(if IntKind.i64.wrap (1+r0)>n_ then IntKind.i64.wrap (1+r0) else n_),(IntKind.i64.wrap (j+1)),()) (x_,())) .d) (.k (a,most,i,k,n_,x_))
def zD4 (zbd:yB->Bool×Int) (x:zvY) (y:At×Unit):=zmj zbd x.1 x.2.1 x.2.2.1 x.2.2.2.1 x.2.2.2.2.2.1 x.2.2.2.2.2.2.1 y.1
def zxx (zbd:yB->Bool×Int) (n:Nat) (a:yB) (most:Int) (i:Int) (k:Int) (n_:Int) (j:Int) (x_:At):=zA (zD4 zbd) default n (a,most,i,k,(),n_,j,()) (x_,())
def zmr (zbd:yB->Bool×Int) (a:yB) (most:Int) (i:Int) (k:Int) (n_:Int) (j:Int) (x_:At):Wy zvY (At×Unit) zXm:=.i (decide (j<Int.ofNat x_.Items.length)) (.i (decide (0<=j)&&decide (j<Int.ofNat x_.Items.length)) (.bn (zbd (x_.Items.getD j.toNat default).Ann) λr2=>.h (a,most,i,k,(),(if IntKind.i64.wrap (1+r2)>n_ then IntKind.i64.wrap (1+r2) else n_),(IntKind.i64.wrap (j+1)),()) (x_,())) .d) (.k (a,most,i,k,n_))
def zD6 (zbd:yB->Bool×Int) (x:zvY) (y:At×Unit):=zmr zbd x.1 x.2.1 x.2.2.1 x.2.2.2.1 x.2.2.2.2.2.1 x.2.2.2.2.2.2.1 y.1
def zEi (zbd:yB->Bool×Int) (n:Nat) (a:yB) (most:Int) (i:Int) (k:Int) (n_:Int) (j:Int) (x_:At):=zA (zD6 zbd) default n (a,most,i,k,(),n_,j,()) (x_,())
def znA (zbd:yB->Bool×Int) (a:yB) (most:Int) (i:Int) (k:Int):Wy zJl Unit zXl:=.i (decide (0<=i)&&decide (i<Int.ofNat a.length)) (.i (decide (k<Int.ofNat (a.getD i.toNat default).Fs.length)) (.i (decide (0<=i)&&decide (i<Int.ofNat a.length)) (.i (decide (0<=k)&&decide (k<Int.ofNat (a.getD i.toNat default).Fs.length)) (.i (((a.getD i.toNat default).Fs.getD k.toNat default).At.Kind==0) (.h (a,most,i,(IntKind.i64.wrap (k+1)),()) ()) (.bn (zxx zbd ((a.length+most.toNat +i.toNat +k.toNat +Int.toNat 1+Int.toNat 0+((a.getD i.toNat default).Fs.getD k.toNat default).At.Ag.length+((a.getD i.toNat default).Fs.getD k.toNat default).At.Items.length+1)+zgV a) a most i k 1 0 (At.mk ((a.getD i.toNat default).Fs.getD k.toNat default).At.Kind ((a.getD i.toNat default).Fs.getD k.toNat default).At.Row ((a.getD i.toNat default).Fs.getD k.toNat default).At.Ag ((a.getD i.toNat default).Fs.getD k.toNat default).At.Func ((a.getD i.toNat default).Fs.getD k.toNat default).At.Items ((a.getD i.toNat default).Fs.getD k.toNat default).At.Op ((a.getD i.toNat default).Fs.getD k.toNat default).At.Bd)) λr5=>.bn (zEi zbd ((r5.1.length+r5.2.1.toNat +r5.2.2.1.toNat +r5.2.2.2.1.toNat +r5.2.2.2.2.1.toNat +Int.toNat 0+r5.2.2.2.2.2.Ag.length+r5.2.2.2.2.2.Items.length+1)+zgV r5.1) r5.1 r5.2.1 r5.2.2.1 r5.2.2.2.1 r5.2.2.2.2.1 0 (At.mk r5.2.2.2.2.2.Kind r5.2.2.2.2.2.Row r5.2.2.2.2.2.Ag r5.2.2.2.2.2.Func r5.2.2.2.2.2.Items r5.2.2.2.2.2.Op r5.2.2.2.2.2.Bd)) λr4=>.h ((r4.1),(if r4.2.2.2.2>r4.2.1 then r4.2.2.2.2 else r4.2.1),(r4.2.2.1),(IntKind.i64.wrap (r4.2.2.2.1+1)),()) ())) .d) .d) (.k (a,most,i))) .d
def zGq (zbd:yB->Bool×Int) (x:zJl) (y:Unit):=znA zbd x.1 x.2.1 x.2.2.1 x.2.2.2.1
def zFG (zbd:yB->Bool×Int) (n:Nat) (a:yB) (most:Int) (i:Int) (k:Int):=zA (zGq zbd) default n (a,most,i,k,()) ()
def znj (zbd:yB->Bool×Int) (a:yB) (most:Int) (i:Int):Wy zKE Unit (Int):=.i (decide (i<Int.ofNat a.length)) (.bn (zFG zbd ((a.length+most.toNat +i.toNat +Int.toNat 0+1)+zgV a) a most i 0) λr8=>.h ((r8.1),(r8.2.1),(IntKind.i64.wrap (r8.2.2+1)),()) ()) (.k most)
def zGb (zbd:yB->Bool×Int) (x:zKE) (y:Unit):=znj zbd x.1 x.2.1 x.2.2.1
def zFL (zbd:yB->Bool×Int) (n:Nat) (a:yB) (most:Int) (i:Int):=zA (zGb zbd) default n (a,most,i,()) ()
def zHM (zbd:yB->Bool×Int) (a:yB):Wy0 (Int):=.bn (zFL zbd ((a.length+Int.toNat 0+Int.toNat 0+1)+zgV a) a 0 0) λr10=>.k r10
def zDp (zbd:yB->Bool×Int) (a:yB):=(zHM zbd a).fin default
def zTy:Nat->(yB->Bool×Int)
 | 0=>λ_=>(false,default)
 | n+1=>zDp (zTy n)
def zoj (n:Nat):yB->Bool×Int:=zTy n
theorem zUi (n:Nat):zoj (n+1)=zDp (zoj n):=rfl
def zRF:yB->Bool×Int:=zoj 1000
mutual
def zfq:At->Nat
 | ⟨_,_,a,_,i,_,_⟩=>zfw a+zc9 i
def zbz:yC->Nat
 | []=>0
 | ⟨x,_⟩::r=>zfq x+zbz r
def zM:yB->Nat
 | []=>0
 | ⟨_,fs⟩::r=>1+fs.length+zbz fs+zM r
def zfw:yA->Nat
 | []=>0
 | a::r=>zM a+zfw r
def zc9:yD->Nat
 | []=>0
 | ⟨_,a⟩::r=>1+zM a+zc9 r
end
theorem zhP (x:At):zfq x=zfw x.Ag+zc9 x.Items:=by cases x; rw [zfq]
theorem zc5 (f:Fc) (r:yC):zbz (f::r)=zfq f.At+zbz r:=by cases f; rw [zbz]
theorem zgb (t:Term) (r:yB):zM (t::r)=1+t.Fs.length+zbz t.Fs+zM r:=by cases t; rw [zM]
theorem zfe (a:yB) (r:yA):zfw (a::r)=zM a+zfw r:=by rw [zfw]
theorem ziR (w:Wd) (r:yD):zc9 (w::r)=1+zM w.Ann+zc9 r:=by cases w; rw [zc9]
theorem zhg:zfw []=0:=by rw [zfw]
theorem zfV:zc9 []=0:=by rw [zc9]
theorem zjf:zbz []=0:=by rw [zbz]
theorem zv6:zM []=0:=by rw [zM]
theorem zZm (l:yA):∀ n:Nat,l.foldl (λs t=>s+zM t) n=n+zfw l:=by
 induction l with
 | nil=>intro n; rw [zhg]; rfl
 | cons a r ih=>intro n; rw [List.foldl_cons,ih,zfe]; omega
theorem zWk (l:yD):∀ n:Nat,l.foldl (λs t=>s+1+zM t.Ann) n=n+zc9 l:=by
 induction l with
 | nil=>intro n; rw [zfV]; rfl
 | cons a r ih=>intro n; rw [List.foldl_cons,ih,ziR]; omega
theorem z1Z (l:yC):∀ n:Nat,l.foldl (λs t=>s+zfq t.At) n=n+zbz l:=by
 induction l with
 | nil=>intro n; rw [zjf]; rfl
 | cons a r ih=>intro n; rw [List.foldl_cons,ih,zc5]; omega
theorem z0K (l:yB):∀ n:Nat,l.foldl (λs t=>s+1+t.Fs.length+zbz t.Fs) n=n+zM l:=by
 induction l with
 | nil=>intro n; rw [zv6]; rfl
 | cons a r ih=>intro n; rw [List.foldl_cons,ih,zgb]; omega
theorem zmt {n m:Nat} (h:n+m<=4611686018427387904):IntKind.i64.wrap ((n:Int)+(m:Int))=((n+m:Nat):Int):=by
 rw [zU5 (by omega) (by omega)]; omega
theorem zhf {i:Nat} (h:i<4611686018427387904):IntKind.i64.wrap ((i:Int)+1)=((i+1:Nat):Int):=zB h
section
variable (g:yB->Bool×Int)
theorem zbaF (l:yA) (hl:l.length<=1000000) (hg:∀ y∈l,g y=(true,(zM y:Int))) (t12:yB) (t13 t14:Int) (t25:yC) (t26 t27:Int) (f:Fc) (fuel n:Nat) (hf:l.length<fuel) (hn:n+zfw l<=4611686018427387904):
  zBM g fuel n t12 t13 t14 t25 t26 t27 l l.length 0 f=(true,(((n+zfw l:Nat):Int),t12,t13,t14,t25,t26,t27,f)):=by
 have h:=zcD (W:=zuM g) (z:=default) (l:=l) (λi (n:Nat)=>((n:Int),(),t12,t13,t14,t25,t26,t27,l,(l.length:Int),(i:Int),())) (λ_ _=>(f,())) (λy n=>.inl (n+zM y)) (λn=>((n:Int),t12,t13,t14,t25,t26,t27,f)) (λi n=>n+zfw (l.drop i)<=4611686018427387904)
  (λi n hi hI=>.inl ⟨_,rfl,by rw [zbl hi,zfe] at hI; omega,λH K D=>by
   rw [zbl hi,zfe] at hI;show (zkF g n t12 t13 t14 t25 t26 t27 l l.length i f).ev H K D=_;unfold zkF;simp only [Wy.ev_i,Wy.ev_k,Wy.ev_h,Wy.ev_bn,Wy.ev_d,tT,hi,hg _ (zl hi)];rw [zmt (by omega),zhf (by omega)]⟩)
  (λn hI H K D=>by
   show (zkF g n t12 t13 t14 t25 t26 t27 l l.length l.length f).ev H K D=_;unfold zkF;simp only [Wy.ev_i,Wy.ev_k,tT,Nat.lt_irrefl]) fuel 0 n (by omega) (Nat.zero_le _) (by simpa using hn)
 rw [List.drop_zero,zcB,zZm] at h;exact h
theorem zbaT (l:yD) (hl:l.length<=1000000) (hg:∀ y∈l,g y.Ann=(true,(zM y.Ann:Int))) (t12:yB) (t13 t14:Int) (t25:yC) (t26 t27:Int) (fuel n:Nat) (hf:l.length<fuel) (hn:n+zc9 l<=4611686018427387904):
  zBV g fuel n t12 t13 t14 t25 t26 t27 l l.length 0=(true,(((n+zc9 l:Nat):Int),t12,t13,t14,t25,t26,t27)):=by
 have h:=zcD (W:=zur g) (z:=default) (l:=l) (λi (n:Nat)=>((n:Int),t12,t13,t14,t25,t26,t27,l,(l.length:Int),(i:Int),())) (λ_ _=>()) (λy n=>.inl (n+1+zM y.Ann)) (λn=>((n:Int),t12,t13,t14,t25,t26,t27)) (λi n=>n+zc9 (l.drop i)<=4611686018427387904)
  (λi n hi hI=>.inl ⟨_,rfl,by rw [zbl hi,ziR] at hI; omega,λH K D=>by
   rw [zbl hi,ziR] at hI;show (zkC g n t12 t13 t14 t25 t26 t27 l l.length i).ev H K D=_;unfold zkC;simp only [Wy.ev_i,Wy.ev_k,Wy.ev_h,Wy.ev_bn,Wy.ev_d,tT,hi,hg _ (zl hi)];rw [zhf (by omega),show (1:Int)=((1:Nat):Int) from rfl,zmt (by omega),zmt (by omega), <- Nat.add_assoc]⟩)
  (λn hI H K D=>by
   show (zkC g n t12 t13 t14 t25 t26 t27 l l.length l.length).ev H K D=_;unfold zkC;simp only [Wy.ev_i,Wy.ev_k,tT,Nat.lt_irrefl]) fuel 0 n (by omega) (Nat.zero_le _) (by simpa using hn)
 rw [List.drop_zero,zcB,zWk] at h;exact h
theorem zbcJ (l:yC) (hl:l.length<=1000000) (hg:∀ f∈l,(f.At.Ag.length<=1000000/\f.At.Items.length<=1000000)/\(∀ y∈f.At.Ag,g y=(true,(zM y:Int)))/\∀ y∈f.At.Items,g y.Ann=(true,(zM y.Ann:Int))) (t12:yB) (t13 t14:Int) (fuel n:Nat) (hf:l.length<fuel) (hn:n+zbz l<=4611686018427387904):
  zDb g fuel n t12 t13 t14 l l.length 0=(true,(((n+zbz l:Nat):Int),t12,t13,t14)):=by
 have h:=zcD (W:=zvG g) (z:=default) (l:=l) (λi (n:Nat)=>((n:Int),t12,t13,t14,l,(l.length:Int),(i:Int),())) (λ_ _=>()) (λy n=>.inl (n+zfq y.At)) (λn=>((n:Int),t12,t13,t14)) (λi n=>n+zbz (l.drop i)<=4611686018427387904)
  (λi n hi hI=>.inl ⟨_,rfl,by rw [zbl hi,zc5] at hI; omega,λH K D=>by
   rw [zbl hi,zc5,zhP] at hI;obtain ⟨⟨h1,h2⟩,h3,h4⟩:=hg _ (zl hi);show (zlq g n t12 t13 t14 l l.length i).ev H K D=_;unfold zlq;simp only [Wy.ev_i,Wy.ev_k,Wy.ev_h,Wy.ev_bn,Wy.ev_d,tT,hi,At.eta];rw [zbaF g _ h1 h3 _ _ _ _ _ _ _ _ _ (by omega) (by omega)]
   simp only [cond_true,Int.toNat_natCast];rw [zbaT g _ h2 h4 _ _ _ _ _ _ _ _ (by omega) (by omega)]
   simp only [cond_true];rw [zhf (by omega),zhP,Nat.add_assoc]⟩)
  (λn hI H K D=>by
   show (zlq g n t12 t13 t14 l l.length l.length).ev H K D=_;unfold zlq;simp only [Wy.ev_i,Wy.ev_k,tT,Nat.lt_irrefl]) fuel 0 n (by omega) (Nat.zero_le _) (by simpa using hn)
 rw [List.drop_zero,zcB,z1Z] at h;exact h
theorem zbcM (l:yB) (hl:l.length<=1000000) (hg:∀ t∈l,t.Fs.length<=1000000/\∀ f∈t.Fs,(f.At.Ag.length<=1000000/\f.At.Items.length<=1000000)/\(∀ y∈f.At.Ag,g y=(true,(zM y:Int)))/\∀ y∈f.At.Items,g y.Ann=(true,(zM y.Ann:Int))) (fuel n:Nat) (hf:l.length<fuel) (hn:n+zM l<=4611686018427387904):
  zDA g fuel n l l.length 0=(true,((n+zM l:Nat):Int)):=by
 have h:=zcD (W:=zv2 g) (z:=default) (l:=l) (λi (n:Nat)=>((n:Int),l,(l.length:Int),(i:Int),())) (λ_ _=>()) (λy n=>.inl (n+1+y.Fs.length+zbz y.Fs)) (λn=>(n:Int)) (λi n=>n+zM (l.drop i)<=4611686018427387904)
  (λi n hi hI=>.inl ⟨_,rfl,by rw [zbl hi,zgb] at hI; omega,λH K D=>by
   rw [zbl hi,zgb] at hI;obtain ⟨h1,h3⟩:=hg _ (zl hi);show (zls g n l l.length i).ev H K D=_;unfold zls;simp only [Wy.ev_i,Wy.ev_k,Wy.ev_h,Wy.ev_bn,Wy.ev_d,tT,hi,At.eta];rw [show (1:Int)=((1:Nat):Int) from rfl,zmt (n:=1) (by omega),zmt (by omega)]
   rw [zbcJ g _ h1 h3 _ _ _ _ _ (by omega) (by omega)]
   simp only [cond_true];rw [show ((1:Nat):Int)=(1:Int) from rfl,zhf (by omega),Nat.add_assoc n 1]⟩)
  (λn hI H K D=>by
   show (zls g n l l.length l.length).ev H K D=_;unfold zls;simp only [Wy.ev_i,Wy.ev_k,tT,Nat.lt_irrefl]) fuel 0 n (by omega) (Nat.zero_le _) (by simpa using hn)
 rw [List.drop_zero,zcB,z0K] at h;exact h
theorem z8Y (x:At) (hl:x.Ag.length<=1000000) (hg:∀ y∈x.Ag,g y=(true,(zM y:Int))) (a:yB) (i k:Int) (fuel n:Nat) (hf:x.Ag.length<fuel) (hn:n+zfw x.Ag<=4611686018427387904):
  zJS g fuel a n i k 0 x=(true,(a,((n+zfw x.Ag:Nat):Int),i,k,x)):=by
 have h:=zcD (W:=zIZ g) (z:=default) (l:=x.Ag) (λj (n:Nat)=>(a,(n:Int),i,k,(),(j:Int),())) (λ_ _=>(x,())) (λy n=>.inl (n+zM y)) (λn=>(a,(n:Int),i,k,x)) (λi n=>n+zfw (x.Ag.drop i)<=4611686018427387904)
  (λj n hi hI=>.inl ⟨_,rfl,by rw [zbl hi,zfe] at hI; omega,λH K D=>by
   rw [zbl hi,zfe] at hI;show (zrx g a n i k j x).ev H K D=_;unfold zrx;simp only [Wy.ev_i,Wy.ev_k,Wy.ev_h,Wy.ev_bn,Wy.ev_d,tT,hi,hg _ (zl hi)];rw [zmt (by omega),zhf (by omega)]⟩)
  (λn hI H K D=>by
   show (zrx g a n i k x.Ag.length x).ev H K D=_;unfold zrx;simp only [Wy.ev_i,Wy.ev_k,tT,Nat.lt_irrefl]) fuel 0 n (by omega) (Nat.zero_le _) (by simpa using hn)
 rw [List.drop_zero,zcB,zZm] at h;exact h
theorem z9T (x:At) (hl:x.Items.length<=1000000) (hg:∀ y∈x.Items,g y.Ann=(true,(zM y.Ann:Int))) (a:yB) (i k:Int) (fuel n:Nat) (hf:x.Items.length<fuel) (hn:n+zc9 x.Items<=4611686018427387904):
  zJv g fuel a n i k 0 x=(true,(a,((n+zc9 x.Items:Nat):Int),i,k)):=by
 have h:=zcD (W:=zJh g) (z:=default) (l:=x.Items) (λj (n:Nat)=>(a,(n:Int),i,k,(),(j:Int),())) (λ_ _=>(x,())) (λy n=>.inl (n+1+zM y.Ann)) (λn=>(a,(n:Int),i,k)) (λi n=>n+zc9 (x.Items.drop i)<=4611686018427387904)
  (λj n hi hI=>.inl ⟨_,rfl,by rw [zbl hi,ziR] at hI; omega,λH K D=>by
   rw [zbl hi,ziR] at hI;show (zrs g a n i k j x).ev H K D=_;unfold zrs;simp only [Wy.ev_i,Wy.ev_k,Wy.ev_h,Wy.ev_bn,Wy.ev_d,tT,hi,hg _ (zl hi)];rw [zhf (i:=j) (by omega),zhf (i:=n) (by omega),zmt (by omega)]⟩)
  (λn hI H K D=>by
   show (zrs g a n i k x.Items.length x).ev H K D=_;unfold zrs;simp only [Wy.ev_i,Wy.ev_k,tT,Nat.lt_irrefl]) fuel 0 n (by omega) (Nat.zero_le _) (by simpa using hn)
 rw [List.drop_zero,zcB,zWk] at h;exact h
theorem zJL:∀ (a:yB) (i:Nat),i<a.length->(a.getD i default).Fs.length<=zgV a
 | [],i,h=>by simp at h
 | t::r,0,h=>by
  have:∀ l:yC,l.length<=z3E l:=λl=>by
   induction l with
   | nil=>exact Nat.le_refl _
   | cons f r ih=>simp only [z3E,qf]; omega
  have:=this t.Fs;simp only [zgV,List.getD_cons_zero]; omega
 | t::r,i+1,h=>by
  have:=zJL r i (by simpa using h)
  simp only [zgV,List.getD_cons_succ]; omega
theorem foldl_factors' (l:yC):∀ n:Nat,l.foldl (λs t=>s+1+zfq t.At) n=n+l.length+zbz l:=by
 induction l with
 | nil=>intro n; rw [zjf]; rfl
 | cons a r ih=>intro n; rw [List.foldl_cons,ih,zc5,qf]; omega
theorem zbbS (a:yB) (i:Nat) (hi:i<a.length) (hla:a.length<=1000000) (l:yC) (el:(a.getD i default).Fs=l) (hl:l.length<=1000000) (hg:∀ f∈l,(f.At.Ag.length<=1000000/\f.At.Items.length<=1000000)/\(∀ y∈f.At.Ag,g y=(true,(zM y:Int)))/\∀ y∈f.At.Items,g y.Ann=(true,(zM y.Ann:Int))) (fuel n:Nat) (hf:l.length<fuel) (hn:n+l.length+zbz l<=4611686018427387904):
  zLY g fuel a n i 0=(true,(a,((n+l.length+zbz l:Nat):Int),(i:Int))):=by
 have h:=zcD (W:=zL9 g) (z:=default) (l:=l) (λk (n:Nat)=>(a,(n:Int),(i:Int),(k:Int),())) (λ_ _=>()) (λy n=>.inl (n+1+zfq y.At)) (λn=>(a,(n:Int),(i:Int))) (λk n=>n+(l.drop k).length+zbz (l.drop k)<=4611686018427387904)
  (λk n hk hI=>.inl ⟨_,rfl,by rw [zbl hk,zc5,qf] at hI; omega,λH K D=>by
   rw [zbl hk,zc5,zhP,qf] at hI;obtain ⟨⟨h1,h2⟩,h3,h4⟩:=hg _ (zl hk);show (ztG g a n i k).ev H K D=_;unfold ztG;simp only [Wy.ev_i,Wy.ev_k,Wy.ev_h,Wy.ev_bn,Wy.ev_d,tT,hi,el,hk,At.eta];rw [zhf (i:=n) (by omega)]
   rw [z8Y g _ h1 h3 _ _ _ _ _ (by omega) (by omega)]
   simp only [cond_true,Int.toNat_natCast,At.eta];rw [z9T g _ h2 h4 _ _ _ _ _ (by omega) (by omega)]
   simp only [cond_true];rw [zhf (by omega),zhP,Nat.add_assoc (n+1)]⟩)
  (λn hI H K D=>by
   show (ztG g a n i l.length).ev H K D=_;unfold ztG;simp only [Wy.ev_i,Wy.ev_k,tT,hi,el,Nat.lt_irrefl]) fuel 0 n (by omega) (Nat.zero_le _) (by simpa using hn)
 rw [List.drop_zero,zcB,foldl_factors'] at h;exact h
theorem zbaM (l:yB) (hl:l.length<=1000000) (hg:∀ t∈l,t.Fs.length<=1000000/\∀ f∈t.Fs,(f.At.Ag.length<=1000000/\f.At.Items.length<=1000000)/\(∀ y∈f.At.Ag,g y=(true,(zM y:Int)))/\∀ y∈f.At.Items,g y.Ann=(true,(zM y.Ann:Int))) (fuel n:Nat) (hf:l.length<fuel) (hn:n+zM l<=4611686018427387904):
  zLZ g fuel l n 0=(true,((n+zM l:Nat):Int)):=by
 have h:=zcD (W:=zLM g) (z:=default) (l:=l) (λi (n:Nat)=>(l,(n:Int),(i:Int),())) (λ_ _=>()) (λy n=>.inl (n+1+y.Fs.length+zbz y.Fs)) (λn=>(n:Int)) (λi n=>n+zM (l.drop i)<=4611686018427387904)
  (λi n hi hI=>.inl ⟨_,rfl,by rw [zbl hi,zgb] at hI; omega,λH K D=>by
   rw [zbl hi,zgb] at hI;obtain ⟨h1,h3⟩:=hg _ (zl hi);have hz:=zJL l i hi;show (ztm g l n i).ev H K D=_;unfold ztm;simp only [Wy.ev_i,Wy.ev_k,Wy.ev_h,Wy.ev_bn,Wy.ev_d,tT,hi,At.eta];rw [zhf (i:=n) (by omega)]
   rw [zbbS g l i hi hl _ rfl h1 h3 _ _ (by omega) (by omega)]
   simp only [cond_true];rw [zhf (by omega)]⟩)
  (λn hI H K D=>by
   show (ztm g l n l.length).ev H K D=_;unfold ztm;simp only [Wy.ev_i,Wy.ev_k,tT,Nat.lt_irrefl]) fuel 0 n (by omega) (Nat.zero_le _) (by simpa using hn)
 rw [List.drop_zero,zcB,z0K] at h;exact h
end
theorem z4Z {l:yA} {y:yB} (h:y∈l):zM y<=zfw l:=by
 induction l with
 | nil=>cases h
 | cons a r ih=>
  rw [zfe];rcases qd.1 h with rfl | h
  ·omega
  ·have:=ih h; omega
theorem z3p {l:yD} {y:Wd} (h:y∈l):zM y.Ann<=zc9 l:=by
 induction l with
 | nil=>cases h
 | cons a r ih=>
  rw [ziR];rcases qd.1 h with rfl | h
  ·omega
  ·have:=ih h; omega
theorem zOi {l:yC} {y:Fc} (h:y∈l):zfq y.At<=zbz l:=by
 induction l with
 | nil=>cases h
 | cons a r ih=>
  rw [zc5];rcases qd.1 h with rfl | h
  ·omega
  ·have:=ih h; omega
theorem z6g {l:yB} {y:Term} (h:y∈l):zbz y.Fs<=zM l:=by
 induction l with
 | nil=>cases h
 | cons a r ih=>
  rw [zgb];rcases qd.1 h with rfl | h
  ·omega
  ·have:=ih h; omega
theorem zZW {a:yB} {t:Term} {f:Fc} (ht:t∈a) (hf:f∈t.Fs):zfw f.At.Ag+zc9 f.At.Items<=zM a:=by
 have h1:=z6g ht; have h2:=zOi hf; rw [zhP] at h2; omega
theorem zNd {d:Nat} {a:yB} (h:zo (d+1) a) {t:Term} (ht:t∈a):t.Fs.length<=1000000/\∀ f∈t.Fs,(f.At.Ag.length<=1000000/\f.At.Items.length<=1000000)/\(∀ y∈f.At.Ag,zo d y)/\∀ y∈f.At.Items,zo d y.Ann:=
 ⟨(h.2 t ht).1,λf hf=>have q:=(h.2 t ht).2 f hf; ⟨⟨q.1.1,q.1.2.1⟩,q.2.1,λy hy=>(q.2.2 y hy).2⟩⟩
theorem zWW:∀ (n d:Nat) (a:yB),zo d a->d<=n->zM a<=4611686018427387904->zlL n a=(true,(zM a:Int))/\zyK n a=(true,(zM a:Int))
 | n,0,a,h,hd,hs=>h.elim
 | 0,d+1,a,h,hd,hs=>by omega
 | n+1,d+1,a,h,hd,hs=>by
  have hg:=λy (hy:zo d y) (hs:zM y<=4611686018427387904)=>zWW n d y hy (by omega) hs
  have hsub:∀ t∈a,t.Fs.length<=1000000/\∀ f∈t.Fs,(f.At.Ag.length<=1000000/\f.At.Items.length<=1000000)/\(∀ y∈f.At.Ag,zo d y/\zM y<=4611686018427387904)/\∀ y∈f.At.Items,zo d y.Ann/\zM y.Ann<=4611686018427387904:=λt ht=>by
   obtain ⟨h1,h2⟩:=zNd h ht;refine ⟨h1,λf hf=> ?_⟩
   obtain ⟨h3,h4,h5⟩:=h2 f hf;have h6:=zZW ht hf;exact ⟨h3,λy hy=>⟨h4 y hy,by have:=z4Z hy; omega⟩,λy hy=>⟨h5 y hy,by have:=z3p hy; omega⟩⟩
  constructor
  ·rw [zPy];unfold zuf zEd
   have h1:=zbcM (zlL n) a h.1 (λt ht=>⟨(hsub t ht).1,λf hf=>⟨((hsub t ht).2 f hf).1,λy hy=>(hg y (((hsub t ht).2 f hf).2.1 y hy).1 (((hsub t ht).2 f hf).2.1 y hy).2).1,λy hy=>(hg _ (((hsub t ht).2 f hf).2.2 y hy).1 (((hsub t ht).2 f hf).2.2 y hy).2).1⟩⟩)
    (Int.toNat 0+a.length+(Int.ofNat a.length).toNat +Int.toNat 0+1) 0 (by omega) (by omega)
   rw [show ((0:Nat):Int)=(0:Int) from rfl,Nat.zero_add] at h1
   rw [Wy.fin_bn,show Int.ofNat a.length=(a.length:Int) from rfl] at *
   rw [h1]; rfl
  ·rw [zYl];unfold zJw zNX
   have h1:=zbaM (zyK n) a h.1 (λt ht=>⟨(hsub t ht).1,λf hf=>⟨((hsub t ht).2 f hf).1,λy hy=>(hg y (((hsub t ht).2 f hf).2.1 y hy).1 (((hsub t ht).2 f hf).2.1 y hy).2).2,λy hy=>(hg _ (((hsub t ht).2 f hf).2.2 y hy).1 (((hsub t ht).2 f hf).2.2 y hy).2).2⟩⟩)
    (a.length+Int.toNat 0+Int.toNat 0+1+zgV a) 0 (by omega) (by omega)
   rw [show ((0:Nat):Int)=(0:Int) from rfl,Nat.zero_add] at h1
   rw [Wy.fin_bn,h1]; rfl
mutual
def zoo:At->Nat
 | ⟨k,_,a,_,i,_,_⟩=>if k=0 then 0 else 1+max (zmx a) (zlG i)
def zdl:yC->Nat
 | []=>0
 | ⟨x,_⟩::r=>max (zoo x) (zdl r)
def zbj:yB->Nat
 | []=>0
 | ⟨_,fs⟩::r=>max (zdl fs) (zbj r)
def zmx:yA->Nat
 | []=>0
 | a::r=>max (zbj a) (zmx r)
def zlG:yD->Nat
 | []=>0
 | ⟨_,a⟩::r=>max (zbj a) (zlG r)
end
theorem zDi (x:At):zoo x=if x.Kind=0 then 0 else 1+max (zmx x.Ag) (zlG x.Items):=by cases x; rw [zoo]
theorem zjO (f:Fc) (r:yC):zdl (f::r)=max (zoo f.At) (zdl r):=by cases f; rw [zdl]
theorem zxd (t:Term) (r:yB):zbj (t::r)=max (zdl t.Fs) (zbj r):=by cases t; rw [zbj]
theorem zCQ (a:yB) (r:yA):zmx (a::r)=max (zbj a) (zmx r):=by rw [zmx]
theorem zBa (w:Wd) (r:yD):zlG (w::r)=max (zbj w.Ann) (zlG r):=by cases w; rw [zlG]
theorem zMq:zmx []=0:=by rw [zmx]
theorem zJJ:zlG []=0:=by rw [zlG]
theorem zqR:zdl []=0:=by rw [zdl]
theorem zIc:zbj []=0:=by rw [zbj]
theorem z6A (l:yA):∀ n:Nat,l.foldl (λs t=>max s (zbj t)) n=max n (zmx l):=by
 induction l with
 | nil=>intro n; rw [zMq]; exact (Nat.max_zero n).symm
 | cons a r ih=>intro n; rw [List.foldl_cons,ih,zCQ]; omega
theorem z49 (l:yD):∀ n:Nat,l.foldl (λs t=>max s (zbj t.Ann)) n=max n (zlG l):=by
 induction l with
 | nil=>intro n; rw [zJJ]; exact (Nat.max_zero n).symm
 | cons a r ih=>intro n; rw [List.foldl_cons,ih,zBa]; omega
theorem z4Q (l:yA):∀ n:Nat,l.foldl (λs t=>max s (1+zbj t)) (1+n)=1+max n (zmx l):=by
 induction l with
 | nil=>intro n; rw [zMq]; simp
 | cons a r ih=>intro n; rw [List.foldl_cons,show max (1+n) (1+zbj a)=1+max n (zbj a) by omega,ih,zCQ]; omega
theorem z3m (l:yD):∀ n:Nat,l.foldl (λs t=>max s (1+zbj t.Ann)) (1+n)=1+max n (zlG l):=by
 induction l with
 | nil=>intro n; rw [zJJ]; simp
 | cons a r ih=>intro n; rw [List.foldl_cons,show max (1+n) (1+zbj a.Ann)=1+max n (zbj a.Ann) by omega,ih,zBa]; omega
theorem zQ4 (l:yC):∀ n:Nat,l.foldl (λs t=>max s (zoo t.At)) n=max n (zdl l):=by
 induction l with
 | nil=>intro n; rw [zqR]; exact (Nat.max_zero n).symm
 | cons a r ih=>intro n; rw [List.foldl_cons,ih,zjO]; omega
theorem z04 (l:yB):∀ n:Nat,l.foldl (λs t=>max s (zdl t.Fs)) n=max n (zbj l):=by
 induction l with
 | nil=>intro n; rw [zIc]; exact (Nat.max_zero n).symm
 | cons a r ih=>intro n; rw [List.foldl_cons,ih,zxd]; omega
theorem zU6 (a b:Nat):(if (a:Int)>(b:Int) then (a:Int) else (b:Int))=((max b a:Nat):Int):=by split <;>omega
theorem zYH {d:Nat}:∀ l:yA,(∀ y∈l,zbj y<=d)->zmx l<=d:=λl=>by
 induction l with
 | nil=>intro _; rw [zMq]; omega
 | cons y r ih=>intro hy; rw [zCQ]; have h1:=hy y (by simp); have h2:=ih λz hz=>hy z (by simp [hz]); omega
theorem zWL {d:Nat}:∀ l:yD,(∀ y∈l,zbj y.Ann<=d)->zlG l<=d:=λl=>by
 induction l with
 | nil=>intro _; rw [zJJ]; omega
 | cons y r ih=>intro hy; rw [zBa]; have h1:=hy y (by simp); have h2:=ih λz hz=>hy z (by simp [hz]); omega
theorem z1U {d:Nat}:∀ l:yC,(∀ y∈l,zoo y.At<=d)->zdl l<=d:=λl=>by
 induction l with
 | nil=>intro _; rw [zqR]; omega
 | cons y r ih=>intro hy; rw [zjO]; have h1:=hy y (by simp); have h2:=ih λz hz=>hy z (by simp [hz]); omega
theorem z8j {d:Nat}:∀ l:yB,(∀ y∈l,zdl y.Fs<=d)->zbj l<=d:=λl=>by
 induction l with
 | nil=>intro _; rw [zIc]; omega
 | cons y r ih=>intro hy; rw [zxd]; have h1:=hy y (by simp); have h2:=ih λz hz=>hy z (by simp [hz]); omega
theorem zQV:∀ (d:Nat) (a:yB),zo d a->zbj a<=d
 | 0,a,h=>h.elim
 | d+1,a,h=>z8j a λt ht=>z1U _ λf hf=>by
  obtain ⟨_,h2⟩:=zNd h ht;obtain ⟨_,h4,h5⟩:=h2 f hf;have q1:=zYH f.At.Ag λy hy=>zQV d y (h4 y hy)
  have q2:=zWL f.At.Items λy hy=>zQV d y.Ann (h5 y hy)
  rw [zDi]; split <;>omega
section
variable (g:yB->Bool×Int)
theorem zbct (l:yA) (hl:l.length<=1000000) (hg:∀ y∈l,g y=(true,(zbj y:Int))) (nn:Int) (t13:yB) (t14 t15:Int) (t20:yC) (t21 t22:Int) (f:Fc) (fuel n:Nat) (hf:l.length<fuel):
  zzh g fuel nn n t13 t14 t15 t20 t21 t22 l l.length 0 f=(true,(nn,((max n (zmx l):Nat):Int),t13,t14,t15,t20,t21,t22,f)):=by
 have h:=zcD (W:=zru g) (z:=default) (l:=l) (λi (n:Nat)=>(nn,(),(n:Int),t13,t14,t15,t20,t21,t22,l,(l.length:Int),(i:Int),())) (λ_ _=>(f,())) (λy n=>.inl (max n (zbj y))) (λn=>(nn,(n:Int),t13,t14,t15,t20,t21,t22,f)) (λi n=>True)
  (λi n hi hI=>.inl ⟨_,rfl,trivial,λH K D=>by
   show (ziF g nn n t13 t14 t15 t20 t21 t22 l l.length i f).ev H K D=_;unfold ziF;simp only [Wy.ev_i,Wy.ev_k,Wy.ev_h,Wy.ev_bn,Wy.ev_d,tT,hi,hg _ (zl hi),zU6];rw [zhf (by omega)]⟩)
  (λn hI H K D=>by
   show (ziF g nn n t13 t14 t15 t20 t21 t22 l l.length l.length f).ev H K D=_;unfold ziF;simp only [Wy.ev_i,Wy.ev_k,tT,Nat.lt_irrefl]) fuel 0 n (by omega) (Nat.zero_le _) trivial
 rw [List.drop_zero,zcB,z6A] at h;exact h
theorem zbcu (l:yD) (hl:l.length<=1000000) (hg:∀ y∈l,g y.Ann=(true,(zbj y.Ann:Int))) (nn:Int) (t13:yB) (t14 t15:Int) (t20:yC) (t21 t22:Int) (fuel n:Nat) (hf:l.length<fuel):
  zyM g fuel nn n t13 t14 t15 t20 t21 t22 l l.length 0=(true,(nn,((max n (zlG l):Nat):Int),t13,t14,t15,t20,t21,t22)):=by
 have h:=zcD (W:=zq8 g) (z:=default) (l:=l) (λi (n:Nat)=>(nn,(n:Int),t13,t14,t15,t20,t21,t22,l,(l.length:Int),(i:Int),())) (λ_ _=>()) (λy n=>.inl (max n (zbj y.Ann))) (λn=>(nn,(n:Int),t13,t14,t15,t20,t21,t22)) (λi n=>True)
  (λi n hi hI=>.inl ⟨_,rfl,trivial,λH K D=>by
   show (ziH g nn n t13 t14 t15 t20 t21 t22 l l.length i).ev H K D=_;unfold ziH;simp only [Wy.ev_i,Wy.ev_k,Wy.ev_h,Wy.ev_bn,Wy.ev_d,tT,hi,hg _ (zl hi),zU6];rw [zhf (by omega)]⟩)
  (λn hI H K D=>by
   show (ziH g nn n t13 t14 t15 t20 t21 t22 l l.length l.length).ev H K D=_;unfold ziH;simp only [Wy.ev_i,Wy.ev_k,tT,Nat.lt_irrefl]) fuel 0 n (by omega) (Nat.zero_le _) trivial
 rw [List.drop_zero,zcB,z49] at h;exact h
def zQC (x:At):Prop:=(x.Ag.length<=1000000/\x.Items.length<=1000000)/\(zoo x<=1000/\(∀ y∈x.Ag,zbj y<=1000)/\∀ y∈x.Items,zbj y.Ann<=1000)/\(∀ y∈x.Ag,g y=(true,(zbj y:Int)))/\∀ y∈x.Items,g y.Ann=(true,(zbj y.Ann:Int))
theorem zbdE (l:yC) (hl:l.length<=1000000) (hg:∀ f∈l,zQC g f.At) (t13:yB) (t14 t15:Int) (fuel n:Nat) (hf:l.length<fuel):
  zzY g fuel n t13 t14 t15 l l.length 0=(true,(((max n (zdl l):Nat):Int),t13,t14,t15)):=by
 have h:=zcD (W:=zsu g) (z:=default) (l:=l) (λi (n:Nat)=>((n:Int),t13,t14,t15,l,(l.length:Int),(i:Int),())) (λ_ _=>()) (λy n=>.inl (max n (zoo y.At))) (λn=>((n:Int),t13,t14,t15)) (λi n=>True)
  (λi n hi hI=>.inl ⟨_,rfl,trivial,λH K D=>by
   obtain ⟨⟨h1,h2⟩,⟨h5,_,_⟩,h3,h4⟩:=hg _ (zl hi);show (zjm g n t13 t14 t15 l l.length i).ev H K D=_;unfold zjm;simp only [Wy.ev_i,Wy.ev_k,Wy.ev_h,Wy.ev_bn,Wy.ev_d,tT,hi,At.eta];generalize l.getD i default=f at *;rw [zDi] at h5 ⊢;by_cases hk:f.At.Kind=0
   ·have e:(f.At.Kind==0)=true:=by simp [hk]
    simp only [e,cond_true];rw [if_pos hk,Nat.max_zero,zhf (by omega)]
   ·have e:(f.At.Kind==0)=false:=by simp [hk]
    simp only [e,cond_false];rw [if_neg hk] at h5 ⊢;have q:=λfuel hf=>zbct g _ h1 h3 n t13 t14 t15 l l.length i f fuel 0 hf
    rw [Nat.zero_max,show ((0:Nat):Int)=(0:Int) from rfl] at q
    rw [q _ (by omega)]
    simp only [cond_true,Int.toNat_natCast];rw [zbcu g _ h2 h4 n t13 t14 t15 l l.length i _ _ (by omega)]
    simp only [cond_true];rw [zhf (by omega),show (1:Int)=((1:Nat):Int) from rfl,zmt (n:=1) (by omega),zU6]⟩)
  (λn hI H K D=>by
   show (zjm g n t13 t14 t15 l l.length l.length).ev H K D=_;unfold zjm;simp only [Wy.ev_i,Wy.ev_k,tT,Nat.lt_irrefl]) fuel 0 n (by omega) (Nat.zero_le _) trivial
 rw [List.drop_zero,zcB,zQ4] at h;exact h
theorem zbdO (l:yB) (hl:l.length<=1000000) (hg:∀ t∈l,t.Fs.length<=1000000/\∀ f∈t.Fs,zQC g f.At) (fuel n:Nat) (hf:l.length<fuel):
  zz1 g fuel n l l.length 0=(true,((max n (zbj l):Nat):Int)):=by
 have h:=zcD (W:=zsl g) (z:=default) (l:=l) (λi (n:Nat)=>((n:Int),l,(l.length:Int),(i:Int),())) (λ_ _=>()) (λy n=>.inl (max n (zdl y.Fs))) (λn=>(n:Int)) (λi n=>True)
  (λi n hi hI=>.inl ⟨_,rfl,trivial,λH K D=>by
   obtain ⟨h1,h3⟩:=hg _ (zl hi);show (zjo g n l l.length i).ev H K D=_;unfold zjo;simp only [Wy.ev_i,Wy.ev_k,Wy.ev_h,Wy.ev_bn,Wy.ev_d,tT,hi,At.eta];rw [zbdE g _ h1 h3 _ _ _ _ _ (by omega)]
   simp only [cond_true];rw [zhf (by omega)]⟩)
  (λn hI H K D=>by
   show (zjo g n l l.length l.length).ev H K D=_;unfold zjo;simp only [Wy.ev_i,Wy.ev_k,tT,Nat.lt_irrefl]) fuel 0 n (by omega) (Nat.zero_le _) trivial
 rw [List.drop_zero,zcB,z04] at h;exact h
theorem zbbe (x:At) (hx:zQC g x) (a:yB) (most i k:Int) (fuel n:Nat) (hf:x.Ag.length<fuel):
  zxx g fuel a most i k ((1+n:Nat):Int) 0 x=(true,(a,most,i,k,((1+max n (zmx x.Ag):Nat):Int),x)):=by
 obtain ⟨⟨h1,h2⟩,⟨h5,h6,h7⟩,h3,h4⟩:=hx
 have h:=zcD (W:=zD4 g) (z:=default) (l:=x.Ag) (λj (n:Nat)=>(a,most,i,k,(),(n:Int),(j:Int),())) (λ_ _=>(x,())) (λy n=>.inl (max n (1+zbj y))) (λn=>(a,most,i,k,(n:Int),x)) (λi n=>True)
  (λj n hi hI=>.inl ⟨_,rfl,trivial,λH K D=>by
   have h8:=h6 _ (zl hi);show (zmj g a most i k n j x).ev H K D=_;unfold zmj;simp only [Wy.ev_i,Wy.ev_k,Wy.ev_h,Wy.ev_bn,Wy.ev_d,tT,hi,h3 _ (zl hi)];rw [zhf (by omega),show (1:Int)=((1:Nat):Int) from rfl,zmt (n:=1) (by omega),zU6]⟩)
  (λn hI H K D=>by
   show (zmj g a most i k n x.Ag.length x).ev H K D=_;unfold zmj;simp only [Wy.ev_i,Wy.ev_k,tT,Nat.lt_irrefl]) fuel 0 (1+n) (by omega) (Nat.zero_le _) trivial
 rw [List.drop_zero,zcB,z4Q] at h;exact h
theorem zbbJ (x:At) (hx:zQC g x) (a:yB) (most i k:Int) (fuel n:Nat) (hf:x.Items.length<fuel):
  zEi g fuel a most i k ((1+n:Nat):Int) 0 x=(true,(a,most,i,k,((1+max n (zlG x.Items):Nat):Int))):=by
 obtain ⟨⟨h1,h2⟩,⟨h5,h6,h7⟩,h3,h4⟩:=hx
 have h:=zcD (W:=zD6 g) (z:=default) (l:=x.Items) (λj (n:Nat)=>(a,most,i,k,(),(n:Int),(j:Int),())) (λ_ _=>(x,())) (λy n=>.inl (max n (1+zbj y.Ann))) (λn=>(a,most,i,k,(n:Int))) (λi n=>True)
  (λj n hi hI=>.inl ⟨_,rfl,trivial,λH K D=>by
   have h8:=h7 _ (zl hi);show (zmr g a most i k n j x).ev H K D=_;unfold zmr;simp only [Wy.ev_i,Wy.ev_k,Wy.ev_h,Wy.ev_bn,Wy.ev_d,tT,hi,h4 _ (zl hi)];rw [zhf (by omega),show (1:Int)=((1:Nat):Int) from rfl,zmt (n:=1) (by omega),zU6]⟩)
  (λn hI H K D=>by
   show (zmr g a most i k n x.Items.length x).ev H K D=_;unfold zmr;simp only [Wy.ev_i,Wy.ev_k,tT,Nat.lt_irrefl]) fuel 0 (1+n) (by omega) (Nat.zero_le _) trivial
 rw [List.drop_zero,zcB,z3m] at h;exact h
theorem RNes_12' (x:At) (hx:zQC g x) (a:yB) (most i k:Int) (fuel:Nat) (hf:x.Ag.length<fuel):zxx g fuel a most i k 1 0 x=(true,(a,most,i,k,((1+zmx x.Ag:Nat):Int),x)):=by
 have h:=zbbe g x hx a most i k fuel 0 hf;rw [Nat.zero_max] at h; exact h
theorem zbcW (a:yB) (i:Nat) (hi:i<a.length) (hla:a.length<=1000000) (l:yC) (el:(a.getD i default).Fs=l) (hl:l.length<=1000000) (hg:∀ f∈l,zQC g f.At) (fuel n:Nat) (hf:l.length<fuel):
  zFG g fuel a n i 0=(true,(a,((max n (zdl l):Nat):Int),(i:Int))):=by
 have h:=zcD (W:=zGq g) (z:=default) (l:=l) (λk (n:Nat)=>(a,(n:Int),(i:Int),(k:Int),())) (λ_ _=>()) (λy n=>.inl (max n (zoo y.At))) (λn=>(a,(n:Int),(i:Int))) (λk n=>True)
  (λk n hk hI=>.inl ⟨_,rfl,trivial,λH K D=>by
   have hx:=hg _ (zl hk);have h5:=hx.2.1.1;show (znA g a n i k).ev H K D=_;unfold znA;simp only [Wy.ev_i,Wy.ev_k,Wy.ev_h,Wy.ev_bn,Wy.ev_d,tT,hi,el,hk,At.eta];generalize l.getD k default=f at *;rw [zDi] at h5 ⊢;by_cases hz:f.At.Kind=0
   ·have e:(f.At.Kind==0)=true:=by simp [hz]
    simp only [e,cond_true];rw [if_pos hz,Nat.max_zero,zhf (by omega)]
   ·have e:(f.At.Kind==0)=false:=by simp [hz]
    have hx1:=hx.1;simp only [e,cond_false];rw [if_neg hz] at h5 ⊢;rw [RNes_12' g _ hx _ _ _ _ _ (by omega)]
    simp only [cond_true,Int.toNat_natCast,At.eta];rw [zbbJ g _ hx _ _ _ _ _ _ (by omega)]
    simp only [cond_true];rw [zhf (by omega),zU6]⟩)
  (λn hI H K D=>by
   show (znA g a n i l.length).ev H K D=_;unfold znA;simp only [Wy.ev_i,Wy.ev_k,tT,hi,el,Nat.lt_irrefl]) fuel 0 n (by omega) (Nat.zero_le _) trivial
 rw [List.drop_zero,zcB,zQ4] at h;exact h
theorem zbch (l:yB) (hl:l.length<=1000000) (hg:∀ t∈l,t.Fs.length<=1000000/\∀ f∈t.Fs,zQC g f.At) (fuel n:Nat) (hf:l.length<fuel):
  zFL g fuel l n 0=(true,((max n (zbj l):Nat):Int)):=by
 have h:=zcD (W:=zGb g) (z:=default) (l:=l) (λi (n:Nat)=>(l,(n:Int),(i:Int),())) (λ_ _=>()) (λy n=>.inl (max n (zdl y.Fs))) (λn=>(n:Int)) (λi n=>True)
  (λi n hi hI=>.inl ⟨_,rfl,trivial,λH K D=>by
   obtain ⟨h1,h3⟩:=hg _ (zl hi);have hz:=zJL l i hi;show (znj g l n i).ev H K D=_;unfold znj;simp only [Wy.ev_i,Wy.ev_k,Wy.ev_h,Wy.ev_bn,Wy.ev_d,tT,hi,At.eta];rw [zbcW g l i hi hl _ rfl h1 h3 _ _ (by omega)]
   simp only [cond_true];rw [zhf (by omega)]⟩)
  (λn hI H K D=>by
   show (znj g l n l.length).ev H K D=_;unfold znj;simp only [Wy.ev_i,Wy.ev_k,tT,Nat.lt_irrefl]) fuel 0 n (by omega) (Nat.zero_le _) trivial
 rw [List.drop_zero,zcB,z04] at h;exact h
end
theorem z0n:∀ (n d:Nat) (a:yB),zo d a->d<=n->d<=100->zgG n a=(true,(zbj a:Int))/\zoj n a=(true,(zbj a:Int))
 | n,0,a,h,hd,hs=>h.elim
 | 0,d+1,a,h,hd,hs=>by omega
 | n+1,d+1,a,h,hd,hs=>by
  have hg:=λy (hy:zo d y)=>z0n n d y hy (by omega) (by omega)
  have hsub:∀ t∈a,t.Fs.length<=1000000/\∀ f∈t.Fs,zQC (zgG n) f.At/\zQC (zoj n) f.At:=λt ht=>by
   obtain ⟨h1,h2⟩:=zNd h ht;refine ⟨h1,λf hf=> ?_⟩
   obtain ⟨h3,h4,h5⟩:=h2 f hf;have q1:∀ y∈f.At.Ag,zbj y<=d:=λy hy=>zQV d y (h4 y hy)
   have q2:∀ y∈f.At.Items,zbj y.Ann<=d:=λy hy=>zQV d y.Ann (h5 y hy)
   have q3:zoo f.At<=1000:=by
    have r1:=zYH _ q1; have r2:=zWL _ q2;rw [zDi]; split <;>omega
   have q4:zoo f.At<=1000/\(∀ y∈f.At.Ag,zbj y<=1000)/\∀ y∈f.At.Items,zbj y.Ann<=1000:=⟨q3,λy hy=>by have:=q1 y hy; omega,λy hy=>by have:=q2 y hy; omega⟩
   exact ⟨⟨h3,q4,λy hy=>(hg y (h4 y hy)).1,λy hy=>(hg _ (h5 y hy)).1⟩,⟨h3,q4,λy hy=>(hg y (h4 y hy)).2,λy hy=>(hg _ (h5 y hy)).2⟩⟩
  constructor
  ·rw [zK1];unfold zpB zAI;have h1:=zbdO (zgG n) a h.1 (λt ht=>⟨(hsub t ht).1,λf hf=>((hsub t ht).2 f hf).1⟩) (Int.toNat 0+a.length+(Int.ofNat a.length).toNat +Int.toNat 0+1) 0 (by omega)
   rw [show ((0:Nat):Int)=(0:Int) from rfl,Nat.zero_max] at h1
   rw [Wy.fin_bn,show Int.ofNat a.length=(a.length:Int) from rfl] at *
   rw [h1]; rfl
  ·rw [zUi];unfold zDp zHM;have h1:=zbch (zoj n) a h.1 (λt ht=>⟨(hsub t ht).1,λf hf=>((hsub t ht).2 f hf).2⟩) (a.length+Int.toNat 0+Int.toNat 0+1+zgV a) 0 (by omega)
   rw [show ((0:Nat):Int)=(0:Int) from rfl,Nat.zero_max] at h1
   rw [Wy.fin_bn,h1]; rfl
theorem zyn (x y:Int):zff x y=(true,zen x y):=by
 unfold zff zHJ zsL zL0 zen;by_cases h1:x<y
 ·simp [h1,Wy.fin_i,Wy.fin_k]
 ·by_cases h2:y<x <;>simp [h1,h2,Wy.fin_i,Wy.fin_k]
theorem zv5 (x y:Int):zjH x y=(true,zen x y):=by
 unfold zjH zEc zn7 zHT zen;by_cases h1:x<y
 ·simp [h1,Wy.fin_i,Wy.fin_k]
 ·by_cases h2:y<x <;>simp [h1,h2,Wy.fin_i,Wy.fin_k]
def zuu:List Int->Int
 | []=>0
 | x::r=>if x=0 then zuu r else x
theorem z5s (l:List Int) (hl:l.length<=1000000):∀ (n i:Nat),l.length<i+n->i<=l.length->∃ r,zGW n 0 l l.length i=(true,r)/\(r=.inl (zuu (l.drop i))\/(r=.inr 0/\zuu (l.drop i)=0))
 | 0,i,h,h2=>by omega
 | n+1,i,h,h2=>by
  show ∃ r,(zHh 0 l l.length i).ev (λx y=>zGW n x.1 x.2.1 x.2.2.1 x.2.2.2.1) (λr=>(true,r)) (false,.inl default)=(true,r)/\_
  unfold zHh;by_cases hi:i<l.length
  ·simp only [Wy.ev_i,Wy.ev_k,Wy.ev_h,Int.ofNat_eq_natCast,zAP,ze4,decide_true,decide_false,Bool.and_self,Bool.true_and,Bool.and_true,cond_true,cond_false,Int.toNat_natCast,Bool.not_true,Bool.not_false,hi];obtain ⟨r,h1,h3⟩:=z5s l hl n (i+1) (by omega) (by omega)
   rw [zbl hi,zB (by omega),h1]
   generalize l.getD i default=x;by_cases hx:x=0
   ·have e:(x != 0)=false:=by simp [hx]
    simp only [e,cond_false,zuu,hx,if_true];exact ⟨r,rfl,h3⟩
   ·have e:(x != 0)=true:=by simp [hx]
    simp only [e,cond_true,zuu,hx,if_false];exact ⟨_,rfl,.inl rfl⟩
  ·simp only [Wy.ev_i,Wy.ev_k,Wy.ev_h,Int.ofNat_eq_natCast,zAP,ze4,decide_true,decide_false,Bool.and_self,Bool.true_and,Bool.and_true,cond_true,cond_false,Int.toNat_natCast,Bool.not_true,Bool.not_false,hi,zdc hi];exact ⟨_,rfl,.inr ⟨rfl,rfl⟩⟩
theorem zwU (l:List Int) (hl:l.length<=1000000):zpC l=(true,zuu l):=by
 unfold zpC zTa;obtain ⟨r,h1,h2⟩:=z5s l hl (Int.toNat 0+l.length+(Int.ofNat l.length).toNat +Int.toNat 0+1) 0 (by simp; omega) (by omega)
 rw [show ((0:Nat):Int)=(0:Int) from rfl] at h1
 rw [Wy.fin_bn,show Int.ofNat l.length=(l.length:Int) from rfl] at *
 rw [h1];rw [List.drop_zero] at h2;rcases h2 with rfl | ⟨rfl,h2⟩
 ·rfl
 ·rw [h2]; rfl
section
variable {α:Type}
def zxl (c:α->α->Int):List α->List α->Int
 | [],[]=>0
 | [],_::_=> -1
 | _::_,[]=>1
 | x::a,y::b=>if c x y=0 then zxl c a b else c x y
theorem zLL (e:α->TT) {c:α->α->Int}:∀ (a b:List α),(∀ x∈a,∀ y∈b,c x y=z8 (e x) (e y))->zxl c a b=zbA (a.map e) (b.map e)
 | [],[],_=>by simp only [zxl,List.map,zbA]
 | [],_::_,_=>by simp only [zxl,List.map,zbA]
 | _::_,[],_=>by simp only [zxl,List.map,zbA]
 | x::a,y::b,h=>by
  simp only [zxl,List.map,zbA];rw [h x (by simp) y (by simp),zLL e a b λx hx y hy=>h x (by simp [hx]) y (by simp [hy])]
variable [Inhabited α]
def z2p (g:α->α->Bool×Int) (s1:List α) (s2:List α) (t11:List α) (t12:Int) (t13:Int):Wy (List α×List α×Unit×List α×Int×Int×Unit) Unit (Int⊕(List α×List α)):=.i (decide (t13<t12)) (.i (decide ((0:Int)<=t13)&&decide (t13<Int.ofNat t11.length)) (.i (decide (t13≥Int.ofNat s2.length)) (.k (.inl (1:Int))) (.i (decide ((0:Int)<=t13)&&decide (t13<Int.ofNat s2.length)) (.bn (g (t11.getD t13.toNat default) (s2.getD t13.toNat default)) λr0=>.i (r0 != (0:Int)) (.k (.inl (r0))) (.h (s1,s2,(),t11,t12,(IntKind.i64.wrap (t13+(1:Int))),()) ())) .d)) .d) (.k (.inr (s1,s2)))
def z7a (g:α->α->Bool×Int) (x:List α×List α×Unit×List α×Int×Int×Unit) (y:Unit):Wy (List α×List α×Unit×List α×Int×Int×Unit) Unit (Int⊕(List α×List α)):=z2p g x.1 x.2.1 x.2.2.2.1 x.2.2.2.2.1 x.2.2.2.2.2.1
def z7e (g:α->α->Bool×Int) (n:Nat) (s1:List α) (s2:List α) (t11:List α) (t12:Int) (t13:Int):Bool×(Int⊕(List α×List α)):=zA (z7a g) (.inl default) n (s1,s2,(),t11,t12,t13,()) ()
def CF (g:α->α->Bool×Int) (s1 s2:List α):Bool×Int:=(.bn (z7e g (s1.length+s2.length+s1.length+(Int.ofNat s1.length).toNat +Int.toNat (0:Int)+(1:Nat)) s1 s2 s1 (Int.ofNat s1.length) (0:Int)) λr2=>.i (isL r2) (.k (getL r2)) (.i (decide (Int.ofNat (getR r2).fst.length<Int.ofNat (getR r2).snd.length)) (.k (-1:Int)) (.k (0:Int))):Wy0 Int).fin default
theorem z5f (g:α->α->Bool×Int) (c:α->α->Int) (a b:List α) (ha:a.length<=1000000) (hg:∀ x∈a,∀ y∈b,g x y=(true,c x y)):∀ (n i:Nat),a.length<i+n->i<=a.length->i<=b.length->
  ∃ r,z7e g n a b a a.length i=(true,r)/\((r=.inl (zxl c (a.drop i) (b.drop i)))\/(r=.inr (a,b)/\zxl c (a.drop i) (b.drop i)=if a.length<b.length then -1 else 0))
 | 0,i,h,h2,h3=>by omega
 | n+1,i,h,h2,h3=>by
  show ∃ r,(z2p g a b a a.length i).ev (λx y=>z7e g n x.1 x.2.1 x.2.2.2.1 x.2.2.2.2.1 x.2.2.2.2.2.1) (λr=>(true,r)) (false,.inl default)=(true,r)/\_
  unfold z2p;by_cases hi:i<a.length
  ·by_cases hi':i<b.length
   ·have hg':¬ b.length<=i:=by omega
    simp only [Wy.ev_i,Wy.ev_k,Wy.ev_h,Wy.ev_bn,Wy.ev_d,Int.ofNat_eq_natCast,zAP,ze4,decide_true,decide_false,Bool.and_self,Bool.true_and,Bool.and_true,cond_true,cond_false,Int.toNat_natCast,Bool.not_true,Bool.not_false,hi,hi',z7M,hg',hg _ (zl hi) _ (zl hi')];rw [zbl hi,zbl hi',zB (by omega)]
    simp only [zxl];generalize c (a.getD i default) (b.getD i default)=z;by_cases hx:z=0
    ·have e:(z != 0)=false:=by simp [hx]
     simp only [e,cond_false,hx,if_true];exact z5f g c a b ha hg n (i+1) (by omega) (by omega) (by omega)
    ·have e:(z != 0)=true:=by simp [hx]
     simp only [e,cond_true,hx,if_false];exact ⟨_,rfl,.inl rfl⟩
   ·have hg':b.length<=i:=by omega
    simp only [Wy.ev_i,Wy.ev_k,Wy.ev_h,Wy.ev_bn,Wy.ev_d,Int.ofNat_eq_natCast,zAP,ze4,decide_true,decide_false,Bool.and_self,Bool.true_and,Bool.and_true,cond_true,cond_false,Int.toNat_natCast,Bool.not_true,Bool.not_false,hi,z7M,hg'];refine ⟨_,rfl,.inl ?_⟩;rw [zbl hi,zdc hi']; rfl
  ·simp only [Wy.ev_i,Wy.ev_k,Wy.ev_h,Wy.ev_bn,Wy.ev_d,Int.ofNat_eq_natCast,zAP,ze4,decide_true,decide_false,Bool.and_self,Bool.true_and,Bool.and_true,cond_true,cond_false,Int.toNat_natCast,Bool.not_true,Bool.not_false,hi];refine ⟨_,rfl,.inr ⟨rfl, ?_⟩⟩;rw [zdc hi];by_cases hi':i<b.length
   ·rw [zbl hi',if_pos (by omega)]; rfl
   ·rw [zdc hi',if_neg (by omega)]; rfl
theorem zbdN (g:α->α->Bool×Int) (c:α->α->Int) (a b:List α) (ha:a.length<=1000000) (hg:∀ x∈a,∀ y∈b,g x y=(true,c x y)):CF g a b=(true,zxl c a b):=by
 unfold CF;obtain ⟨r,h1,h2⟩:=z5f g c a b ha hg (a.length+b.length+a.length+(Int.ofNat a.length).toNat +Int.toNat 0+1) 0 (by simp; omega) (by omega) (by omega)
 rw [show ((0:Nat):Int)=(0:Int) from rfl] at h1
 rw [Wy.fin_bn,show Int.ofNat a.length=(a.length:Int) from rfl] at *
 rw [h1];simp only [List.drop_zero] at h2;rcases h2 with rfl | ⟨rfl,h2⟩
 ·rfl
 ·rw [h2];simp only [Wy.fin_i,Wy.fin_k,Int.ofNat_eq_natCast,zAP,ze4,decide_true,decide_false,Bool.and_self,Bool.true_and,Bool.and_true,cond_true,cond_false,Int.toNat_natCast,Bool.not_true,Bool.not_false,isL,getR];by_cases h3:a.length<b.length <;>simp [h3]
end
theorem zO0 {α:Type} [Inhabited α] (e:α->TT) (g:α->α->Bool×Int) (a b:List α) (ha:a.length<=1000000) (hg:∀ x∈a,∀ y∈b,g x y=(true,z8 (e x) (e y))):CF g a b=(true,zbA (a.map e) (b.map e)):=by
 rw [zbdN g (λx y=>z8 (e x) (e y)) a b ha hg,zLL e a b λ_ _ _ _=>rfl]
theorem Fc.eta2 (x:Fc):(FO.mk (At.mk x.At.Kind x.At.Row x.At.Ag x.At.Func x.At.Items x.At.Op x.At.Bd) x.Exp:Fc)=x:=by rw [At.eta]
theorem z9o (g):zbI g=CF g:=rfl
theorem z6h (g):zbk g=CF g:=by
 have h:zbG g=z7a g:=by
  funext x y
  unfold zbG zee z7a z2p;rw [Fc.eta2,Fc.eta2]
 funext a b
 unfold zbk zei zec;rw [h]; rfl
theorem zbby (g):zbg g=CF g:=rfl
theorem z83 (g):zby g=CF g:=rfl
theorem zBy (a b:Value):zki a b=(true,z8 (trV a) (trV b)):=by
 unfold zki zMa;have h:(strings_Compare a.Text b.Text).2=z8 (trB a.Text) (trB b.Text):=by rw [<- z5b]; rfl
 simp only [zyn,zv5,Wy.fin_bn,cond_true,h];rw [zwU _ (by simp)]
 simp only [Wy.fin_k,cond_true,trV,z8,zbA,zuu];rfl
theorem zO1:∀ n,
  (∀ d a b,zo d a->10*d<=n->zgz n a b=(true,zbA (zdw a) (zdw b)))/\
  (∀ d a b,zo d a->10*d<=n+1->zbK n a b=(true,zbA (zdw a) (zdw b)))/\
  (∀ d x y,zhd (zo d) x.Fs->10*d+10<=n+2->zjz n x y=(true,z8 (zyr x) (zyr y)))/\
  (∀ d x y,zhd (zo d) x.Fs->10*d+10<=n+3->zhI n x y=(true,zbA (zbo x.Fs) (zbo y.Fs)))/\
  (∀ d l l',zhd (zo d) l->10*d+10<=n+4->zbR n l l'=(true,zbA (zbo l) (zbo l')))/\
  (∀ d x y,zdb (zo d) x.At->10*d+10<=n+5->zgp n x y=(true,z8 (zrg x) (zrg y)))/\
  (∀ d x y,zdb (zo d) x->10*d+10<=n+6->zhH n x y=(true,z8 (zd4 x) (zd4 y)))/\
  (∀ d a b,a.length<=1000000->(∀ x∈a,zo d x)->10*d+10<=n+7->zbf n a b=(true,zbA (zww a) (zww b)))/\
  (∀ d a b,a.length<=1000000->(∀ x∈a,zo d x.Ann)->10*d+10<=n+7->zbx n a b=(true,zbA (zic a) (zic b)))/\
  (∀ d x y,zo d x.Ann->10*d+10<=n+8->zfy n x y=(true,z8 (z7 x) (z7 y)))
 | 0=>by
  refine ⟨?_, ?_, ?_, ?_, ?_, ?_, ?_, ?_, ?_, ?_⟩
  ·intro d a b h hd; have:d=0:=by omega
   subst this; exact h.elim
  ·intro d a b h hd; have:d=0:=by omega
   subst this; exact h.elim
  all_goals (intros; omega)
 | n+1=>by
  obtain ⟨h1,h2,h3,h4,h5,h6,h7,h8,h9,h10⟩:=zO1 n;refine ⟨?_, ?_, ?_, ?_, ?_, ?_, ?_, ?_, ?_, ?_⟩
  ·intro d a b h hd;rw [zK8];unfold zp7 zAH;rw [Wy.fin_bn,h2 d a b h (by omega)]; rfl
  ·intro d a b h hd;cases d with
   | zero=>exact h.elim
   | succ d=>
    rw [ziS,z9o,zGk,zGk];exact zO0 zyr _ a b h.1 λx hx y hy=>h3 d x y (h.2 x hx) (by omega)
  ·intro d x y h hd;rw [zGL];unfold zl5 zxT;rw [Wy.fin_bn,h4 d x y h (by omega)]
   simp only [cond_true,Wy.fin_bn,zv5];rw [zwU _ (by simp)]
   obtain ⟨c,l⟩:=x; obtain ⟨c',l'⟩:=y;simp only [cond_true,Wy.fin_k,zuu,zyr,z8,zbA];rfl
  ·intro d x y h hd;rw [zEG];unfold zkV zvC;rw [Wy.fin_bn,h5 d _ _ h (by omega)]; rfl
  ·intro d l l' h hd;rw [zjn,z6h,zw3,zw3];exact zO0 zrg _ l l' h.1 λx hx y hy=>h6 d x y (h.2 x hx) (by omega)
  ·intro d x y h hd;rw [zDr];unfold zjQ zt9;rw [At.eta,At.eta,Wy.fin_bn,h7 d _ _ h (by omega)]
   simp only [cond_true,Wy.fin_bn,zyn];rw [zwU _ (by simp)]
   obtain ⟨c,l⟩:=x; obtain ⟨c',l'⟩:=y;simp only [cond_true,Wy.fin_k,zuu,zrg,z8,zbA];rfl
  ·intro d x y h hd;rw [zEx];unfold zkX zvD;simp only [cond_true,Wy.fin_bn,zyn,zBy,h8 d x.Ag y.Ag h.1.1 h.2.1 (by omega),h9 d x.Items y.Items h.1.2.1 (λw hw=>(h.2.2 w hw).2) (by omega)]
   rw [zwU _ (by simp)]
   obtain ⟨k,r,a,f,i,o,v⟩:=x; obtain ⟨k',r',a',f',i',o',v'⟩:=y;simp only [cond_true,Wy.fin_k,zuu,zd4,z8,zbA];rfl
  ·intro d a b h0 h hd;rw [zfN,zbby,zCV,zCV];exact zO0 (λx=>TT.l (zdw x)) _ a b h0 λx hx y hy=>by rw [h1 d x y (h x hx) (by omega)]; simp only [z8]
  ·intro d a b h0 h hd;rw [zhk,z83,zm4,zm4];exact zO0 z7 _ a b h0 λx hx y hy=>h10 d x y (h x hx) (by omega)
  ·intro d x y h hd;rw [zEI];unfold zkU zvv;simp only [cond_true,Wy.fin_bn,zBy,h1 d _ _ h (by omega)]
   rw [zwU _ (by simp)]
   obtain ⟨c,l⟩:=x; obtain ⟨c',l'⟩:=y;simp only [cond_true,Wy.fin_k,zuu,z7,z8,zbA];rfl
theorem zOd {d:Nat} {a:yB} (h:zo d a) (hd:d<=100) (b:yB):zy3 a b=(true,zbA (zdw a) (zdw b)):=(zO1 1000).1 d a b h (by omega)
theorem zwP {d:Nat} {x:Term} (h:zhd (zo d) x.Fs) (hd:d<=99) (y:Term):zbU x y=(true,zbA (zbo x.Fs) (zbo y.Fs)):=(zO1 1000).2.2.2.1 d x y h (by omega)
theorem zwA {d:Nat} {x:At} (h:zdb (zo d) x) (hd:d<=99) (y:At):zjy x y=(true,z8 (zd4 x) (zd4 y)):=(zO1 1000).2.2.2.2.2.2.1 d x y h (by omega)
theorem zkn {d:Nat} {x:Wd} (h:zo d x.Ann) (hd:d<=99) (y:Wd):zX x y=(true,z8 (z7 x) (z7 y)):=(zO1 1000).2.2.2.2.2.2.2.2.2 d x y h (by omega)
theorem zxg {d:Nat} {a:yB} (h:zo d a) (hd:d<=100) (b:yB):zgB a b=(true,decide (a=b)):=by
 unfold zgB zF3;rw [Wy.fin_bn,zOd h hd];simp only [cond_true,Wy.fin_k];congr 1;by_cases e:a=b
 ·subst e; rw [zTj]; simp
 ·have:zbA (zdw a) (zdw b)≠0:=λh=>e (zFY _ _ (zIO _ _ h))
  simp [e,this]
def zOh (a:Int) (b:Int):Wy0 (Int):=.i (decide (a<b)) (.k (-1:Int)) (.i (decide (a>b)) (.k 1) (.k 0))
def zdo (a:Int) (b:Int):=(zOh a b).fin default
abbrev zJD:=yB×yB×Int×Unit
abbrev zW8:=Int⊕(yB×yB)
def zT9 (zdK:yC->yC->Bool×Int) (a:yB) (b:yB) (i:Int):Wy zJD Unit zW8:=.i (decide (i<Int.ofNat a.length)) (.i (decide (i<Int.ofNat b.length)) (.i (decide (0<=i)&&decide (i<Int.ofNat a.length)) (.i (decide (0<=i)&&decide (i<Int.ofNat b.length)) (.bn (zdK (a.getD i.toNat default).Fs (b.getD i.toNat default).Fs) λr1=>.i (r1 != 0) (.k (.inl (r1))) (.i (decide (0<=i)&&decide (i<Int.ofNat a.length)) (.i (decide (0<=i)&&decide (i<Int.ofNat b.length)) (.bn (zdo (a.getD i.toNat default).Cf (b.getD i.toNat default).Cf) λr0=>.i (r0 != 0) (.k (.inl (r0))) (.h (a,b,(IntKind.i64.wrap (i+1)),()) ())) .d) .d)) .d) .d) (.k (.inr (a,b)))) (.k (.inr (a,b)))
def zUm (zdK:yC->yC->Bool×Int) (x:zJD) (y:Unit):=zT9 zdK x.1 x.2.1 x.2.2.1
def zS7 (zdK:yC->yC->Bool×Int) (n:Nat) (a:yB) (b:yB) (i:Int):=zA (zUm zdK) (.inl default) n (a,b,i,()) ()
def zVT (zdK:yC->yC->Bool×Int) (a:yB) (b:yB):Wy0 (Int):=.bn (zS7 zdK (a.length+b.length+Int.toNat 0+1) a b 0) λr5=>.i (isL r5) (.k (getL r5)) (.bn (zdo (Int.ofNat (getR r5).1.length) (Int.ofNat (getR r5).2.length)) λr4=>.k r4)
def zCN (zdK:yC->yC->Bool×Int) (a:yB) (b:yB):=(zVT zdK a b).fin default
def zTs (less:Bool):Wy0 (Int):=.i (less) (.k (-1:Int)) (.k 1)
def zIf (less:Bool):=(zTs less).fin default
def zLJ (a:Value) (b:Value):Wy0 (Int):=.i (a.Kind != b.Kind) (.bn (zIf (decide (a.Kind<b.Kind))) λr0=>.k r0) (.i (a.Int != b.Int) (.bn (zIf (decide (a.Int<b.Int))) λr1=>.k r1) (.i (!a.Text.toList==b.Text.toList) (.bn (zIf (Op.bytesLess a.Text.toList b.Text.toList)) λr2=>.k r2) (.k 0)))
def zwz (a:Value) (b:Value):=(zLJ a b).fin default
def zFj (a:RowID) (b:RowID):Wy0 (Int):=.bn (zdo a.Table b.Table) λr1=>.i (r1 != 0) (.k r1) (.bn (zdo a.Seq b.Seq) λr0=>.k r0)
def zBd (a:RowID) (b:RowID):=(zFj a b).fin default
abbrev zDe:=Unit×Unit×Int×Unit
abbrev zCJ:=At×At×Unit
abbrev zPK:=Int⊕(At×At)
def ztO (zb4:yB->yB->Bool×Int) (zes:yD->yD->Bool×Int) (i:Int) (a:At) (b:At):Wy zDe zCJ zPK:=.i (decide (i<Int.ofNat a.Ag.length)) (.i (decide (i<Int.ofNat b.Ag.length)) (.i (decide (0<=i)&&decide (i<Int.ofNat a.Ag.length)) (.i (decide (0<=i)&&decide (i<Int.ofNat b.Ag.length)) (.bn (zb4 (a.Ag.getD i.toNat default) (b.Ag.getD i.toNat default)) λr0=>.i (r0 != 0) (.k (.inl (r0))) (.h ((),(),(IntKind.i64.wrap (i+1)),()) (a,b,()))) .d) .d) (.k (.inr (a,b)))) (.k (.inr (a,b)))
def zMz (zb4:yB->yB->Bool×Int) (zes:yD->yD->Bool×Int) (x:zDe) (y:zCJ):=ztO zb4 zes x.2.2.1 y.1 y.2.1
def ztS (zb4:yB->yB->Bool×Int) (zes:yD->yD->Bool×Int) (n:Nat) (i:Int) (a:At) (b:At):=zA (zMz zb4 zes) (.inl default) n ((),(),i,()) (a,b,())
def zB9 (zb4:yB->yB->Bool×Int) (zes:yD->yD->Bool×Int) (a:At) (b:At):Wy0 (Int):=.bn (zdo a.Kind b.Kind) λr9=>.i (r9 != 0) (.k r9) (.bn (zBd a.Row b.Row) λr8=>.i (r8 != 0) (.k r8) (.bn (ztS zb4 zes (Int.toNat 0+a.Ag.length+a.Items.length+b.Ag.length+b.Items.length+1) 0 (At.mk a.Kind a.Row a.Ag a.Func a.Items a.Op a.Bd) (At.mk b.Kind b.Row b.Ag b.Func b.Items b.Op b.Bd)) λr7=>.i (isL r7) (.k (getL r7)) (.bn (zdo (Int.ofNat (getR r7).1.Ag.length) (Int.ofNat (getR r7).2.Ag.length)) λr6=>.i (r6 != 0) (.k r6) (.bn (zdo (getR r7).1.Func (getR r7).2.Func) λr5=>.i (r5 != 0) (.k r5) (.bn (zes (getR r7).1.Items (getR r7).2.Items) λr4=>.i (r4 != 0) (.k r4) (.bn (zdo (getR r7).1.Op (getR r7).2.Op) λr3=>.i (r3 != 0) (.k r3) (.bn (zwz (getR r7).1.Bd (getR r7).2.Bd) λr2=>.k r2)))))))
def zrG (zb4:yB->yB->Bool×Int) (zes:yD->yD->Bool×Int) (a:At) (b:At):=(zB9 zb4 zes a b).fin default
abbrev zz4:=yC×yC×Int×Unit
abbrev zLc:=Int⊕(yC×yC)
def zxF (zeN:At->At->Bool×Int) (a:yC) (b:yC) (i:Int):Wy zz4 Unit zLc:=.i (decide (i<Int.ofNat a.length)) (.i (decide (i<Int.ofNat b.length)) (.i (decide (0<=i)&&decide (i<Int.ofNat a.length)) (.i (decide (0<=i)&&decide (i<Int.ofNat b.length)) (.bn (zeN (At.mk (a.getD i.toNat default).At.Kind (a.getD i.toNat default).At.Row (a.getD i.toNat default).At.Ag (a.getD i.toNat default).At.Func (a.getD i.toNat default).At.Items (a.getD i.toNat default).At.Op (a.getD i.toNat default).At.Bd) (At.mk (b.getD i.toNat default).At.Kind (b.getD i.toNat default).At.Row (b.getD i.toNat default).At.Ag (b.getD i.toNat default).At.Func (b.getD i.toNat default).At.Items (b.getD i.toNat default).At.Op (b.getD i.toNat default).At.Bd)) λr1=>.i (r1 != 0) (.k (.inl (r1))) (.i (decide (0<=i)&&decide (i<Int.ofNat a.length)) (.i (decide (0<=i)&&decide (i<Int.ofNat b.length)) (.bn (zdo (a.getD i.toNat default).Exp (b.getD i.toNat default).Exp) λr0=>.i (r0 != 0) (.k (.inl (r0))) (.h (a,b,(IntKind.i64.wrap (i+1)),()) ())) .d) .d)) .d) .d) (.k (.inr (a,b)))) (.k (.inr (a,b)))
def zp1 (zeN:At->At->Bool×Int) (x:zz4) (y:Unit):=zxF zeN x.1 x.2.1 x.2.2.1
def zxU (zeN:At->At->Bool×Int) (n:Nat) (a:yC) (b:yC) (i:Int):=zA (zp1 zeN) (.inl default) n (a,b,i,()) ()
def zyj (zeN:At->At->Bool×Int) (a:yC) (b:yC):Wy0 (Int):=.bn (zxU zeN (a.length+b.length+Int.toNat 0+1) a b 0) λr5=>.i (isL r5) (.k (getL r5)) (.bn (zdo (Int.ofNat (getR r5).1.length) (Int.ofNat (getR r5).2.length)) λr4=>.k r4)
def zm2 (zeN:At->At->Bool×Int) (a:yC) (b:yC):=(zyj zeN a b).fin default
abbrev zB3:=yD×yD×Int×Unit
abbrev zNu:=Int⊕(yD×yD)
def zLm (zb4:yB->yB->Bool×Int) (a:yD) (b:yD) (i:Int):Wy zB3 Unit zNu:=.i (decide (i<Int.ofNat a.length)) (.i (decide (i<Int.ofNat b.length)) (.i (decide (0<=i)&&decide (i<Int.ofNat a.length)) (.i (decide (0<=i)&&decide (i<Int.ofNat b.length)) (.bn (zwz (a.getD i.toNat default).Value (b.getD i.toNat default).Value) λr1=>.i (r1 != 0) (.k (.inl (r1))) (.i (decide (0<=i)&&decide (i<Int.ofNat a.length)) (.i (decide (0<=i)&&decide (i<Int.ofNat b.length)) (.bn (zb4 (a.getD i.toNat default).Ann (b.getD i.toNat default).Ann) λr0=>.i (r0 != 0) (.k (.inl (r0))) (.h (a,b,(IntKind.i64.wrap (i+1)),()) ())) .d) .d)) .d) .d) (.k (.inr (a,b)))) (.k (.inr (a,b)))
def zLj (zb4:yB->yB->Bool×Int) (x:zB3) (y:Unit):=zLm zb4 x.1 x.2.1 x.2.2.1
def zKW (zb4:yB->yB->Bool×Int) (n:Nat) (a:yD) (b:yD) (i:Int):=zA (zLj zb4) (.inl default) n (a,b,i,()) ()
def zMG (zb4:yB->yB->Bool×Int) (a:yD) (b:yD):Wy0 (Int):=.bn (zKW zb4 (a.length+b.length+Int.toNat 0+1) a b 0) λr5=>.i (isL r5) (.k (getL r5)) (.bn (zdo (Int.ofNat (getR r5).1.length) (Int.ofNat (getR r5).2.length)) λr4=>.k r4)
def zvZ (zb4:yB->yB->Bool×Int) (a:yD) (b:yD):=(zMG zb4 a b).fin default
def zlH:Nat->(yB->yB->Bool×Int)×(yC->yC->Bool×Int)×(At->At->Bool×Int)×(yD->yD->Bool×Int)
 | 0=>(λ_ _=>(false,default),λ_ _=>(false,default),λ_ _=>(false,default),λ_ _=>(false,default))
 | n+1=>(zCN ((zlH n).2.1),zm2 ((zlH n).2.2.1),zrG ((zlH n).1) ((zlH n).2.2.2),zvZ ((zlH n).1))
def zty (n:Nat):yB->yB->Bool×Int:=(zlH n).1
def zmT (n:Nat):yC->yC->Bool×Int:=(zlH n).2.1
def zrM (n:Nat):At->At->Bool×Int:=(zlH n).2.2.1
def zpQ (n:Nat):yD->yD->Bool×Int:=(zlH n).2.2.2
theorem zTw (n:Nat):zty (n+1)=zCN (zmT n):=rfl
theorem zIs (n:Nat):zmT (n+1)=zm2 (zrM n):=rfl
theorem zM9 (n:Nat):zrM (n+1)=zrG (zty n) (zpQ n):=rfl
theorem zK5 (n:Nat):zpQ (n+1)=zvZ (zty n):=rfl
def zRf:yB->yB->Bool×Int:=zty 1000
def zpF:yC->yC->Bool×Int:=zmT 1000
def zo6:At->At->Bool×Int:=zrM 1000
def zyD:yD->yD->Bool×Int:=zpQ 1000
def zUJ (a:yB) (b:yB):Wy0 (Bool):=.bn (zRf a b) λr0=>.k (r0==0)
def zDG (a:yB) (b:yB):=(zUJ a b).fin default
end Go.Proofs.YtoknknbmfmddbaaGreatDoor
end
