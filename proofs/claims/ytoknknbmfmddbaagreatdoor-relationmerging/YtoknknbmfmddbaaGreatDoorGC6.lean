/- Texts of this claim, joined (the program, its functions in plain words, and what they compute). -/
import Derived.Test.YtoknknbmfmddbaaGreatDoorGC5
set_option autoImplicit false
set_option linter.unusedVariables false
set_option linter.unusedSectionVars false
set_option linter.unusedSimpArgs false
set_option maxRecDepth 1000000
set_option maxHeartbeats 0
/- What the laws examine: annotations of small weight. -/
noncomputable section
namespace Go.Proofs.YtoknknbmfmddbaaGreatDoor
open Go Go.Ab
theorem znO:∀ {l:yC},zsH l->∀ x∈l,zvE x
 | [],_,x,hx=>by cases hx
 | y::r,h,x,hx=>by
  unfold zsH at h;rcases qd.1 hx with rfl | hx
  ·exact h.1
  ·exact znO h.2 x hx
theorem zsd:∀ {l:yB},zgC l->∀ x∈l,zzr x
 | [],_,x,hx=>by cases hx
 | y::r,h,x,hx=>by
  unfold zgC at h;rcases qd.1 hx with rfl | hx
  ·exact h.1
  ·exact zsd h.2 x hx
theorem zju:∀ {l:yA},zv5 l->∀ x∈l,zgC x/\x.length<=zX
 | [],_,x,hx=>by cases hx
 | y::r,h,x,hx=>by
  unfold zv5 at h;rcases qd.1 hx with rfl | hx
  ·exact h.1
  ·exact zju h.2 x hx
theorem zje:∀ {l:yD},zr2 l->∀ x∈l,zMF x.Value/\zgC x.Ann/\x.Ann.length<=zX
 | [],_,x,hx=>by cases hx
 | y::r,h,x,hx=>by
  unfold zr2 at h;rcases qd.1 hx with rfl | hx
  ·have:=h.1; unfold zEW at this; exact ⟨this.1,this.2.1,this.2.2⟩
  ·exact zje h.2 x hx
theorem zvr {t:Term} (h:zzr t):wf2 t.Cf/\zsH t.Fs/\t.Fs.length<=zX:=by
 unfold zzr at h; exact ⟨h.1,h.2.1,h.2.2⟩
theorem zqN {t:Fc} (h:zvE t):zgz t.At/\wf3 t.Exp:=by
 unfold zvE at h; exact h
theorem zsb {x:At} (h:zgz x):(zv5 x.Ag/\x.Ag.length<=zX)/\(zr2 x.Items/\x.Items.length<=zX)/\zMF x.Bd/\wf3 x.Kind/\zWL x.Row/\wf3 x.Func/\wf3 x.Op:=by
 obtain ⟨k,r,a,f,i,o,b⟩:=x; unfold zgz at h; exact ⟨h.2.2.1,h.2.2.2.2.1,h.2.2.2.2.2.2,h.1,h.2.1,h.2.2.2.1,h.2.2.2.2.2.1⟩
theorem z9B {n:Nat} (h:n<4611686018427387904):IntKind.i64.wrap (n:Int)=n:=zM8 (by omega) (by omega)
theorem ze5 {z:Int} (h0: -4611686018427387904<=z) (h:z<4611686018427387904):IntKind.i64.wrap z=z:=zM8 (by omega) (by omega)
mutual
def zDu:At->Nat
 | ⟨_,_,a,_,i,_,b⟩=>i.length+a.length+b.Text.size+zpJ a+zkM i
def zha:yC->Nat
 | []=>0
 | ⟨x,_⟩::r=>zDu x+zha r
def zel:yB->Nat
 | []=>0
 | ⟨_,fs⟩::r=>1+fs.length+zha fs+zel r
def zpJ:yA->Nat
 | []=>0
 | a::r=>zel a+zpJ r
def zkM:yD->Nat
 | []=>0
 | ⟨v,a⟩::r=>v.Text.size+zel a+zkM r
end
theorem zX6 (x:At):zDu x=x.Items.length+x.Ag.length+x.Bd.Text.size+zpJ x.Ag+zkM x.Items:=by cases x; rw [zDu]
theorem zLc (f:Fc) (r:yC):zha (f::r)=zDu f.At+zha r:=by cases f; rw [zha]
theorem zLY (t:Term) (r:yB):zel (t::r)=1+t.Fs.length+zha t.Fs+zel r:=by cases t; rw [zel]
theorem zTg (a:yB) (r:yA):zpJ (a::r)=zel a+zpJ r:=by rw [zpJ]
theorem zF7 (w:Wd) (r:yD):zkM (w::r)=w.Value.Text.size+zel w.Ann+zkM r:=by cases w; rw [zkM]
theorem z5K:zpJ []=0:=by rw [zpJ]
theorem z3x:zkM []=0:=by rw [zkM]
theorem zZC:zha []=0:=by rw [zha]
theorem z7o:zel []=0:=by rw [zel]
section
variable (g:yB->Int->Int->Bool×Int) (a:yB) (limit d:Nat) (hl:limit<=1000) (hd:d<=100) (B:Nat) (hB:B<=1152921504606846976) (P:yB->Prop)
include hl hd hB
theorem w14 (x:At) (i k:Int) (hlen:x.Ag.length<=zX) (hg:∀ y∈x.Ag,∀ l:Nat,l<=1000->∃ w:Nat,g y l d=(true,(w:Int))/\w<=B/\(w<=l->P y/\zel y<=w)):
  ∀ (fuel j n:Nat),x.Ag.length<j+fuel->j<=x.Ag.length->n<=2305843009213693952->∃ n':Nat,zxZ g fuel a limit (d+1:Nat) n i k j x=(true,(a,(limit:Int),((d+1:Nat):Int),(n':Int),i,k,x))/\n<=n'/\n'<=max n (limit+B)/\(n'<=limit->(∀ y∈x.Ag.drop j,P y)/\n+zpJ (x.Ag.drop j)<=n')
 | 0,j,n,h1,h2,h3=>by omega
 | fuel+1,j,n,h1,h2,h3=>by
  show ∃ n':Nat,(zxw g a limit (d+1:Nat) n i k j x).ev (λx y=>zxZ g fuel x.1 x.2.1 x.2.2.1 x.2.2.2.1 x.2.2.2.2.1 x.2.2.2.2.2.1 x.2.2.2.2.2.2.2.1 y.1) (λr=>(true,r)) (false,default)=_/\_
  unfold zxw;have hml:zX=140737488351232:=rfl;by_cases hj:j<x.Ag.length
  ·by_cases hn:n<=limit
   ·have e1:IntKind.i64.wrap ((limit:Int) - (n:Int))=((limit - n:Nat):Int):=by rw [ze5 (by omega) (by omega)]; omega
    obtain ⟨w,hw,hwB,hwP⟩:=hg _ (zm hj) (limit - n) (by omega)
    have ed:IntKind.i64.wrap (((d+1:Nat):Int) - 1)=(d:Int):=by rw [ze5 (by omega) (by omega)]; omega
    simp only [Wy.ev_i,Wy.ev_k,Wy.ev_h,Wy.ev_bn,Wy.ev_d,tT,hj,zuf,hn,e1,ed,hw];have e3:IntKind.i64.wrap ((n:Int)+(w:Int))=((n+w:Nat):Int):=by rw [ze5 (by omega) (by omega)]; omega
    rw [e3,zy (by omega)]
    obtain ⟨n',h4,h5,h6,h7⟩:=w14 x i k hlen hg fuel (j+1) (n+w) (by omega) (by omega) (by omega)
    refine ⟨n',h4,by omega,by omega,λhn'=> ?_⟩
    obtain ⟨h8,h9⟩:=h7 hn';obtain ⟨p1,p2⟩:=hwP (by omega)
    rw [zbh hj,zTg];refine ⟨λy hy=> ?_,by omega⟩
    rcases qd.1 hy with rfl | hy
    ·exact p1
    ·exact h8 y hy
   ·simp only [Wy.ev_i,Wy.ev_k,Wy.ev_h,Wy.ev_bn,Wy.ev_d,tT,hj,zuf,hn];exact ⟨n,rfl,Nat.le_refl _,by omega,λh=>absurd h hn⟩
  ·simp only [Wy.ev_i,Wy.ev_k,Wy.ev_h,Wy.ev_bn,Wy.ev_d,tT,hj];exact ⟨n,rfl,Nat.le_refl _,by omega,λ_=>by rw [zcu hj,z5K]; exact ⟨λy hy=>(by cases hy),Nat.le_refl _⟩⟩
theorem w18 (x:At) (i k:Int) (hlen:x.Items.length<=zX) (hg:∀ y∈x.Items,y.Value.Text.size<=zX/\∀ l:Nat,l<=1000->∃ w:Nat,g y.Ann l d=(true,(w:Int))/\w<=B/\(w<=l->P y.Ann/\zel y.Ann<=w)):
  ∀ (fuel j n:Nat),x.Items.length<j+fuel->j<=x.Items.length->n<=2305843009213693952->∃ n':Nat,zxG g fuel a limit (d+1:Nat) n i k j x=(true,(a,(limit:Int),((d+1:Nat):Int),(n':Int),i,k))/\n<=n'/\n'<=max n (limit+zX+B)/\(n'<=limit->(∀ y∈x.Items.drop j,y.Value.Text.size<=1000/\P y.Ann)/\n+zkM (x.Items.drop j)<=n')
 | 0,j,n,h1,h2,h3=>by omega
 | fuel+1,j,n,h1,h2,h3=>by
  show ∃ n':Nat,(zxK g a limit (d+1:Nat) n i k j x).ev (λx y=>zxG g fuel x.1 x.2.1 x.2.2.1 x.2.2.2.1 x.2.2.2.2.1 x.2.2.2.2.2.1 x.2.2.2.2.2.2.2.1 y.1) (λr=>(true,r)) (false,default)=_/\_
  unfold zxK;have hml:zX=140737488351232:=rfl;by_cases hj:j<x.Items.length
  ·by_cases hn:n<=limit
   ·have e1:IntKind.i64.wrap ((limit:Int) - (n:Int))=((limit - n:Nat):Int):=by rw [ze5 (by omega) (by omega)]; omega
    obtain ⟨ht,hgy⟩:=hg _ (zm hj);obtain ⟨w,hw,hwB,hwP⟩:=hgy (limit - n) (by omega)
    have ed:IntKind.i64.wrap (((d+1:Nat):Int) - 1)=(d:Int):=by rw [ze5 (by omega) (by omega)]; omega
    simp only [Wy.ev_i,Wy.ev_k,Wy.ev_h,Wy.ev_bn,Wy.ev_d,tT,hj,zuf,hn,e1,ed,hw];generalize hsz:(x.Items.getD j default).Value.Text.size=sz at *;have e3:IntKind.i64.wrap (IntKind.i64.wrap ((n:Int)+(sz:Int))+(w:Int))=((n+sz+w:Nat):Int):=by rw [ze5 (z:=(n:Int)+(sz:Int)) (by omega) (by omega),ze5 (by omega) (by omega)]; omega
    rw [e3,zy (by omega)]
    obtain ⟨n',h4,h5,h6,h7⟩:=w18 x i k hlen hg fuel (j+1) (n+sz+w) (by omega) (by omega) (by omega)
    refine ⟨n',h4,by omega,by omega,λhn'=> ?_⟩
    obtain ⟨h8,h9⟩:=h7 hn';obtain ⟨p1,p2⟩:=hwP (by omega)
    rw [zbh hj,zF7];refine ⟨λy hy=> ?_,by omega⟩
    rcases qd.1 hy with rfl | hy
    ·exact ⟨by omega,p1⟩
    ·exact h8 y hy
   ·simp only [Wy.ev_i,Wy.ev_k,Wy.ev_h,Wy.ev_bn,Wy.ev_d,tT,hj,zuf,hn];exact ⟨n,rfl,Nat.le_refl _,by omega,λh=>absurd h hn⟩
  ·simp only [Wy.ev_i,Wy.ev_k,Wy.ev_h,Wy.ev_bn,Wy.ev_d,tT,hj];exact ⟨n,rfl,Nat.le_refl _,by omega,λ_=>by rw [zcu hj,z3x]; exact ⟨λy hy=>(by cases hy),Nat.le_refl _⟩⟩
theorem w9 (i:Nat) (hi:i<a.length) (hla:(a.getD i default).Fs.length<=zX) (hg:∀ f∈(a.getD i default).Fs,f.At.Ag.length<=zX/\f.At.Items.length<=zX/\f.At.Bd.Text.size<=zX/\(∀ y∈f.At.Ag,∀ l:Nat,l<=1000->∃ w:Nat,g y l d=(true,(w:Int))/\w<=B/\(w<=l->P y/\zel y<=w))/\
   ∀ y∈f.At.Items,y.Value.Text.size<=zX/\∀ l:Nat,l<=1000->∃ w:Nat,g y.Ann l d=(true,(w:Int))/\w<=B/\(w<=l->P y.Ann/\zel y.Ann<=w)):
  ∀ (fuel k n:Nat),(a.getD i default).Fs.length<k+fuel->k<=(a.getD i default).Fs.length->n<=2305843009213693952->∃ n':Nat,zy6 g fuel a limit (d+1:Nat) n i k=(true,(a,(limit:Int),((d+1:Nat):Int),(n':Int),(i:Int)))/\n<=n'/\n'<=max n (limit+4*zX+B)/\
   (n'<=limit->(∀ f∈(a.getD i default).Fs.drop k,(f.At.Ag.length<=1000/\f.At.Items.length<=1000/\f.At.Bd.Text.size<=1000)/\(∀ y∈f.At.Ag,P y)/\∀ y∈f.At.Items,y.Value.Text.size<=1000/\P y.Ann)/\n+zha ((a.getD i default).Fs.drop k)<=n')
 | 0,k,n,h1,h2,h3=>by omega
 | fuel+1,k,n,h1,h2,h3=>by
  show ∃ n':Nat,(zzn g a limit (d+1:Nat) n i k).ev (λx y=>zy6 g fuel x.1 x.2.1 x.2.2.1 x.2.2.2.1 x.2.2.2.2.1 x.2.2.2.2.2.1) (λr=>(true,r)) (false,default)=_/\_
  unfold zzn;have hml:zX=140737488351232:=rfl;by_cases hk:k<(a.getD i default).Fs.length
  ·by_cases hn:n<=limit
   ·simp only [Wy.ev_i,Wy.ev_k,Wy.ev_h,Wy.ev_bn,Wy.ev_d,tT,hi,hk,zuf,hn,At.eta];obtain ⟨ha1,ha2,ha3,hgA,hgI⟩:=hg _ (zm hk);generalize hf:((a.getD i default).Fs.getD k default)=f at *
    have e0:IntKind.i64.wrap (IntKind.i64.wrap (IntKind.i64.wrap ((n:Int)+(f.At.Items.length:Int))+(f.At.Ag.length:Int))+(f.At.Bd.Text.size:Int))=((n+f.At.Items.length+f.At.Ag.length+f.At.Bd.Text.size:Nat):Int):=by
     rw [ze5 (z:=(n:Int)+(f.At.Items.length:Int)) (by omega) (by omega),ze5 (z:=(n:Int)+(f.At.Items.length:Int)+(f.At.Ag.length:Int)) (by omega) (by omega),ze5 (by omega) (by omega)]; omega
    rw [e0];obtain ⟨n1,q1,q2,q3,q4⟩:=w14 g a limit d hl hd B hB P f.At i k ha1 hgA (a.length+limit+(d+1)+((n+f.At.Items.length+f.At.Ag.length+f.At.Bd.Text.size:Nat):Int).toNat +i+k+Int.toNat 0+f.At.Ag.length+f.At.Items.length+1) 0 (n+f.At.Items.length+f.At.Ag.length+f.At.Bd.Text.size) (by omega) (by omega) (by omega)
    rw [show ((0:Nat):Int)=(0:Int) from rfl] at q1
    rw [q1];simp only [cond_true,At.eta,Int.toNat_natCast];obtain ⟨n2,r1,r2,r3,r4⟩:=w18 g a limit d hl hd B hB P f.At i k ha2 hgI (a.length+limit+(d+1)+n1+i+k+Int.toNat 0+f.At.Ag.length+f.At.Items.length+1) 0 n1 (by omega) (by omega) (by omega)
    rw [show ((0:Nat):Int)=(0:Int) from rfl] at r1
    rw [r1];simp only [cond_true];rw [zy (by omega)]
    obtain ⟨n',h4,h5,h6,h7⟩:=w9 i hi hla hg fuel (k+1) n2 (by omega) (by omega) (by omega)
    refine ⟨n',h4,by omega,by omega,λhn'=> ?_⟩
    obtain ⟨h8,h9⟩:=h7 hn';obtain ⟨q5,q6⟩:=q4 (by omega)
    obtain ⟨r5,r6⟩:=r4 (by omega)
    rw [List.drop_zero] at q5 q6 r5 r6;rw [zbh hk,zLc,hf,zX6];refine ⟨λy hy=> ?_,by omega⟩
    rcases qd.1 hy with rfl | hy
    ·exact ⟨⟨by omega,by omega,by omega⟩,q5,r5⟩
    ·exact h8 y hy
   ·simp only [Wy.ev_i,Wy.ev_k,Wy.ev_h,Wy.ev_bn,Wy.ev_d,tT,hi,hk,zuf,hn];exact ⟨n,rfl,Nat.le_refl _,by omega,λh=>absurd h hn⟩
  ·simp only [Wy.ev_i,Wy.ev_k,Wy.ev_h,Wy.ev_bn,Wy.ev_d,tT,hi,hk];exact ⟨n,rfl,Nat.le_refl _,by omega,λ_=>by rw [zcu hk,zZC]; exact ⟨λy hy=>(by cases hy),Nat.le_refl _⟩⟩
theorem w5 (hla:∀ t∈a,t.Fs.length<=zX) (hg:∀ t∈a,∀ f∈t.Fs,f.At.Ag.length<=zX/\f.At.Items.length<=zX/\f.At.Bd.Text.size<=zX/\(∀ y∈f.At.Ag,∀ l:Nat,l<=1000->∃ w:Nat,g y l d=(true,(w:Int))/\w<=B/\(w<=l->P y/\zel y<=w))/\
   ∀ y∈f.At.Items,y.Value.Text.size<=zX/\∀ l:Nat,l<=1000->∃ w:Nat,g y.Ann l d=(true,(w:Int))/\w<=B/\(w<=l->P y.Ann/\zel y.Ann<=w)) (hlen:a.length<=zX):
  ∀ (fuel i n:Nat),a.length<i+fuel->i<=a.length->n<=2305843009213693952->∃ n':Nat,zy9 g fuel a limit (d+1:Nat) n i=(true,(n':Int))/\n<=n'/\n'<=max n (limit+6*zX+B)/\
   (n'<=limit->(n+(a.length - i)<=n'/\n+zel (a.drop i)<=n')/\∀ t∈a.drop i,t.Fs.length<=1000/\∀ f∈t.Fs,(f.At.Ag.length<=1000/\f.At.Items.length<=1000/\f.At.Bd.Text.size<=1000)/\(∀ y∈f.At.Ag,P y)/\∀ y∈f.At.Items,y.Value.Text.size<=1000/\P y.Ann)
 | 0,i,n,h1,h2,h3=>by omega
 | fuel+1,i,n,h1,h2,h3=>by
  show ∃ n':Nat,(zy5 g a limit (d+1:Nat) n i).ev (λx y=>zy9 g fuel x.1 x.2.1 x.2.2.1 x.2.2.2.1 x.2.2.2.2.1) (λr=>(true,r)) (false,default)=_/\_
  unfold zy5;have hml:zX=140737488351232:=rfl;by_cases hi:i<a.length
  ·by_cases hn:n<=limit
   ·simp only [Wy.ev_i,Wy.ev_k,Wy.ev_h,Wy.ev_bn,Wy.ev_d,tT,hi,zuf,hn];have hla':=hla _ (zm hi)
    have e0:IntKind.i64.wrap (IntKind.i64.wrap ((n:Int)+1)+((a.getD i default).Fs.length:Int))=((n+1+(a.getD i default).Fs.length:Nat):Int):=by
     rw [zy (by omega),ze5 (by omega) (by omega)]; omega
    rw [e0];obtain ⟨n1,q1,q2,q3,q4⟩:=w9 g a limit d hl hd B hB P i hi hla' (hg _ (zm hi)) (a.length+limit+(d+1)+((n+1+(a.getD i default).Fs.length:Nat):Int).toNat +i+Int.toNat 0+1) 0 (n+1+(a.getD i default).Fs.length) (by omega) (by omega) (by omega)
    rw [show ((0:Nat):Int)=(0:Int) from rfl] at q1
    rw [q1];simp only [cond_true];rw [zy (by omega)]
    obtain ⟨n',h4,h5,h6,h7⟩:=w5 hla hg hlen fuel (i+1) n1 (by omega) (by omega) (by omega)
    refine ⟨n',h4,by omega,by omega,λhn'=> ?_⟩
    obtain ⟨⟨h8,h10⟩,h9⟩:=h7 hn';obtain ⟨q5,q6⟩:=q4 (by omega)
    rw [List.drop_zero] at q5 q6;rw [zbh hi,zLY];refine ⟨⟨by omega,by omega⟩,λy hy=> ?_⟩
    rcases qd.1 hy with rfl | hy
    ·exact ⟨by omega,q5⟩
    ·exact h9 y hy
   ·simp only [Wy.ev_i,Wy.ev_k,Wy.ev_h,Wy.ev_bn,Wy.ev_d,tT,hi,zuf,hn];exact ⟨n,rfl,Nat.le_refl _,by omega,λh=>absurd h hn⟩
  ·simp only [Wy.ev_i,Wy.ev_k,Wy.ev_h,Wy.ev_bn,Wy.ev_d,tT,hi];exact ⟨n,rfl,Nat.le_refl _,by omega,λ_=>by rw [zcu hi,z7o]; exact ⟨⟨by omega,Nat.le_refl _⟩,λy hy=>(by cases hy)⟩⟩
end
theorem z0X:∀ (d N:Nat),d<N->d<=12->∀ (l:Nat),l<=1000->∀ a,zgC a->a.length<=zX->∃ w:Nat,zpT N a l d=(true,(w:Int))/\w<=(d+1)*4503599627370496/\(w<=l->zn d a/\zel a<=w)
 | _,0,h,_,_,_,_,_,_=>by omega
 | 0,N+1,_,_,l,hl,a,hw,hlen=>by
  rw [zGL];unfold ztK zAn;refine ⟨l+1, ?_,by omega,λh=>by omega⟩
  simp only [Wy.fin_i,Wy.fin_k];rw [zy (by omega)]; rfl
 | d+1,N+1,hN,hd,l,hl,a,hw,hlen=>by
  rw [zGL];unfold ztK zAn;have hml:zX=140737488351232:=rfl;have ih:=λy (h1:zgC y) (h2:y.length<=zX) l hl=>z0X d N (by omega) (by omega) l hl y h1 h2
  have e0:(((d+1:Nat):Int)==(0:Int))=false:=by
   rw [beq_eq_false_iff_ne]; omega
  obtain ⟨n',h1,h2,h3,h4⟩:=w5 (zpT N) a l d hl (by omega) ((d+1)*4503599627370496) (by omega) (zn d) (λt ht=>(zvr (zsd hw t ht)).2.2) (λt ht f hf=>by
   have hx:=zsb (zqN (znO (zvr (zsd hw t ht)).2.1 f hf)).1;refine ⟨hx.1.2,hx.2.1.2,hx.2.2.1.2.2,λy hy l hl=> ?_,λy hy=> ?_⟩
   ·have:=zju hx.1.1 y hy;exact ih y this.1 this.2 l hl
   ·have:=zje hx.2.1.1 y hy;exact ⟨this.1.2.2,λl hl=>ih y.Ann this.2.1 this.2.2 l hl⟩) hlen (a.length+l+(d+1)+Int.toNat 0+Int.toNat 0+1) 0 0 (by omega) (by omega) (by omega)
  rw [show ((0:Nat):Int)=(0:Int) from rfl] at h1
  refine ⟨n', ?_,by omega,λhn=> ?_⟩
  ·simp only [Wy.fin_i,Wy.fin_k,Wy.fin_bn,e0,cond_false,Int.toNat_natCast,h1,cond_true]
  ·obtain ⟨⟨h5,h12⟩,h6⟩:=h4 hn;rw [List.drop_zero] at h12;refine ⟨⟨by omega,λt ht=> ?_⟩,by omega⟩
   obtain ⟨h7,h8⟩:=h6 t (by simpa using ht)
   refine ⟨by omega,λf hf=> ?_⟩
   obtain ⟨h9,h10,h11⟩:=h8 f hf;exact ⟨⟨by omega,by omega,by omega⟩,h10,λw hw=>⟨by have:=(h11 w hw).1; omega,(h11 w hw).2⟩⟩
theorem z3U (limit:Nat) (hl:limit<=1000) (l:yA) (hll:l.length<=1000) (hw:∀ a∈l,zgC a/\a.length<=zX):∀ (n i:Nat),l.length<i+n->i<=l.length->∃ r,zJ3 n limit l i=(true,r)/\((r=.inl false)\/(r=.inr ()/\∀ a∈l.drop i,zn 12 a/\zel a<=limit))
 | 0,i,h1,h2=>by omega
 | n+1,i,h1,h2=>by
  show ∃ r,(zI1 limit l i).ev (λx y=>zJ3 n x.1 x.2.1 x.2.2.1) (λr=>(true,r)) (false,.inl default)=(true,r)/\_
  unfold zI1;by_cases hi:i<l.length
  ·obtain ⟨w,q1,q2,q3⟩:=z0X 12 1000 (by omega) (by omega) limit hl _ (hw _ (zm hi)).1 (hw _ (zm hi)).2
   have q1':zIP (l.getD i default) (limit:Int) 12=(true,(w:Int)):=q1;simp only [Wy.ev_i,Wy.ev_k,Wy.ev_h,Wy.ev_bn,Wy.ev_d,tT,hi,q1',zjQ];by_cases hg:limit<w
   ·simp only [hg,decide_true,cond_true];exact ⟨_,rfl,.inl rfl⟩
   ·simp only [hg,decide_false,cond_false];rw [zy (by omega)]
    obtain ⟨r,h3,h4⟩:=z3U limit hl l hll hw n (i+1) (by omega) (by omega)
    refine ⟨r,h3, ?_⟩;rcases h4 with h4 | ⟨h4,h5⟩
    ·exact .inl h4
    ·refine .inr ⟨h4,λa ha=> ?_⟩
     rw [zbh hi] at ha;rcases qd.1 ha with rfl | ha
     ·exact ⟨(q3 (by omega)).1,by have:=(q3 (by omega)).2; omega⟩
     ·exact h5 a ha
  ·simp only [Wy.ev_i,Wy.ev_k,Wy.ev_h,Wy.ev_bn,Wy.ev_d,tT,hi];exact ⟨_,rfl,.inr ⟨rfl,λa ha=>by rw [zcu hi] at ha; cases ha⟩⟩
theorem zbc8 (limit:Nat) (hl:limit<=1000) (l:yA) (hll:l.length<=1000) (hw:∀ a∈l,zgC a/\a.length<=zX):∃ b,zA0 limit l=(true,b)/\(b=true->∀ a∈l,zn 12 a/\zel a<=limit):=by
 unfold zA0 zWe;obtain ⟨r,h1,h2⟩:=z3U limit hl l hll hw (limit+l.length+Int.toNat 0+1) 0 (by omega) (by omega)
 rw [show ((0:Nat):Int)=(0:Int) from rfl] at h1
 rw [Wy.fin_bn];simp only [Int.toNat_natCast,h1,cond_true];rcases h2 with rfl | ⟨rfl,h2⟩
 ·exact ⟨false,rfl,λh=>by cases h⟩
 ·exact ⟨true,rfl,λ_ a ha=>h2 a (by simpa using ha)⟩
end Go.Proofs.YtoknknbmfmddbaaGreatDoor
/- What lies inside lists of terms and factors: fuel for loops. -/
namespace Go.Proofs.YtoknknbmfmddbaaGreatDoor
def z38:yC->Nat
 | []=>0
 | f::r=>f.Exp.toNat +f.At.Ag.length+f.At.Items.length+1+z38 r
def zgt:yB->Nat
 | []=>0
 | t::r=>z38 t.Fs+1+zgt r
end Go.Proofs.YtoknknbmfmddbaaGreatDoor
namespace Go.Proofs.YtoknknbmfmddbaaGreatDoor
open Go Go.Ab
abbrev zzW:=yB×Int×Int×Int×Unit×Int×Unit
abbrev z2w:=yB×Int×Int×Int×At
abbrev z2f:=yB×Int×Int×Int
abbrev zQW:=yB×Int×Int×Int×Unit
abbrev z2K:=yB×Int×Int
abbrev zQS:=yB×Int×Int×Unit
def zpZ (zbK:yB->Bool×Int) (a:yB) (n_:Int) (i:Int) (k:Int) (j:Int) (x_:At):Wy zzW (At×Unit) z2w:=.i (decide (j<Int.ofNat x_.Ag.length)) (.i (decide (0<=j)&&decide (j<Int.ofNat x_.Ag.length)) (.bn (zbK (x_.Ag.getD j.toNat default)) λr0=>.h (a,(IntKind.i64.wrap (n_+r0)),i,k,(),(IntKind.i64.wrap (j+1)),()) (x_,())) .d) (.k (a,n_,i,k,x_))
def zJJ (zbK:yB->Bool×Int) (x:zzW) (y:At×Unit):=zpZ zbK x.1 x.2.1 x.2.2.1 x.2.2.2.1 x.2.2.2.2.2.1 y.1
def zIQ (zbK:yB->Bool×Int) (n:Nat) (a:yB) (n_:Int) (i:Int) (k:Int) (j:Int) (x_:At):=zx (zJJ zbK) default n (a,n_,i,k,(),j,()) (x_,())
def zqn (zbK:yB->Bool×Int) (a:yB) (n_:Int) (i:Int) (k:Int) (j:Int) (x_:At):Wy zzW (At×Unit) z2f:=.i (decide (j<Int.ofNat x_.Items.length)) (.i (decide (0<=j)&&decide (j<Int.ofNat x_.Items.length)) (.bn (zbK (x_.Items.getD j.toNat default).Ann) λr2=>.h (a,(IntKind.i64.wrap (IntKind.i64.wrap (n_+1)+r2)),i,k,(),(IntKind.i64.wrap (j+1)),()) (x_,())) .d) (.k (a,n_,i,k))
def zJe (zbK:yB->Bool×Int) (x:zzW) (y:At×Unit):=zqn zbK x.1 x.2.1 x.2.2.1 x.2.2.2.1 x.2.2.2.2.2.1 y.1
def zJt (zbK:yB->Bool×Int) (n:Nat) (a:yB) (n_:Int) (i:Int) (k:Int) (j:Int) (x_:At):=zx (zJe zbK) default n (a,n_,i,k,(),j,()) (x_,())
def zsj (zbK:yB->Bool×Int) (a:yB) (n_:Int) (i:Int) (k:Int):Wy zQW Unit z2K:=.i (decide (0<=i)&&decide (i<Int.ofNat a.length)) (.i (decide (k<Int.ofNat (a.getD i.toNat default).Fs.length)) (.i (decide (0<=i)&&decide (i<Int.ofNat a.length)) (.i (decide (0<=k)&&decide (k<Int.ofNat (a.getD i.toNat default).Fs.length)) (.bn (zIQ zbK ((a.length+(IntKind.i64.wrap (n_+1)).toNat +i.toNat +k.toNat +Int.toNat 0+((a.getD i.toNat default).Fs.getD k.toNat default).At.Ag.length+((a.getD i.toNat default).Fs.getD k.toNat default).At.Items.length+1)+zgt a) a (IntKind.i64.wrap (n_+1)) i k 0 (At.mk ((a.getD i.toNat default).Fs.getD k.toNat default).At.Kind ((a.getD i.toNat default).Fs.getD k.toNat default).At.Row ((a.getD i.toNat default).Fs.getD k.toNat default).At.Ag ((a.getD i.toNat default).Fs.getD k.toNat default).At.Func ((a.getD i.toNat default).Fs.getD k.toNat default).At.Items ((a.getD i.toNat default).Fs.getD k.toNat default).At.Op ((a.getD i.toNat default).Fs.getD k.toNat default).At.Bd)) λr5=>.bn (zJt zbK ((r5.1.length+r5.2.1.toNat +r5.2.2.1.toNat +r5.2.2.2.1.toNat +Int.toNat 0+r5.2.2.2.2.Ag.length+r5.2.2.2.2.Items.length+1)+zgt r5.1) r5.1 r5.2.1 r5.2.2.1 r5.2.2.2.1 0 (At.mk r5.2.2.2.2.Kind r5.2.2.2.2.Row r5.2.2.2.2.Ag r5.2.2.2.2.Func r5.2.2.2.2.Items r5.2.2.2.2.Op r5.2.2.2.2.Bd)) λr4=>.h ((r4.1),(r4.2.1),(r4.2.2.1),(IntKind.i64.wrap (r4.2.2.2+1)),()) ()) .d) .d) (.k (a,n_,i))) .d
def zLb (zbK:yB->Bool×Int) (x:zQW) (y:Unit):=zsj zbK x.1 x.2.1 x.2.2.1 x.2.2.2.1
def zLp (zbK:yB->Bool×Int) (n:Nat) (a:yB) (n_:Int) (i:Int) (k:Int):=zx (zLb zbK) default n (a,n_,i,k,()) ()
def zsJ (zbK:yB->Bool×Int) (a:yB) (n_:Int) (i:Int):Wy zQS Unit (Int):=.i (decide (i<Int.ofNat a.length)) (.bn (zLp zbK ((a.length+(IntKind.i64.wrap (n_+1)).toNat +i.toNat +Int.toNat 0+1)+zgt a) a (IntKind.i64.wrap (n_+1)) i 0) λr8=>.h ((r8.1),(r8.2.1),(IntKind.i64.wrap (r8.2.2+1)),()) ()) (.k n_)
def zLd (zbK:yB->Bool×Int) (x:zQS) (y:Unit):=zsJ zbK x.1 x.2.1 x.2.2.1
def zLC (zbK:yB->Bool×Int) (n:Nat) (a:yB) (n_:Int) (i:Int):=zx (zLd zbK) default n (a,n_,i,()) ()
def zNr (zbK:yB->Bool×Int) (a:yB):Wy0 (Int):=.bn (zLC zbK ((a.length+Int.toNat 0+Int.toNat 0+1)+zgt a) a 0 0) λr10=>.k r10
def zJN (zbK:yB->Bool×Int) (a:yB):=(zNr zbK a).fin default
def z1b:Nat->(yB->Bool×Int)
 | 0=>λ_=>(false,default)
 | n+1=>zJN (z1b n)
def zxA (n:Nat):yB->Bool×Int:=z1b n
theorem zYB (n:Nat):zxA (n+1)=zJN (zxA n):=rfl
def zZv:yB->Bool×Int:=zxA 1000
abbrev zu1:=yB×Int×Int×Int×Unit×Int×Int×Unit
abbrev zXq:=yB×Int×Int×Int×Int×At
abbrev zXh:=yB×Int×Int×Int×Int
abbrev zIR:=yB×Int×Int×Int×Unit
abbrev zXv:=yB×Int×Int
abbrev zIE:=yB×Int×Int×Unit
def zlL (zbf:yB->Bool×Int) (a:yB) (most:Int) (i:Int) (k:Int) (n_:Int) (j:Int) (x_:At):Wy zu1 (At×Unit) zXq:=.i (decide (j<Int.ofNat x_.Ag.length)) (.i (decide (0<=j)&&decide (j<Int.ofNat x_.Ag.length)) (.bn (zbf (x_.Ag.getD j.toNat default)) λr0=>.h (a,most,i,k,(),(if IntKind.i64.wrap (1+r0)>n_ then IntKind.i64.wrap (1+r0) else n_),(IntKind.i64.wrap (j+1)),()) (x_,())) .d) (.k (a,most,i,k,n_,x_))
def zCT (zbf:yB->Bool×Int) (x:zu1) (y:At×Unit):=zlL zbf x.1 x.2.1 x.2.2.1 x.2.2.2.1 x.2.2.2.2.2.1 x.2.2.2.2.2.2.1 y.1
def zwO (zbf:yB->Bool×Int) (n:Nat) (a:yB) (most:Int) (i:Int) (k:Int) (n_:Int) (j:Int) (x_:At):=zx (zCT zbf) default n (a,most,i,k,(),n_,j,()) (x_,())
def zlG (zbf:yB->Bool×Int) (a:yB) (most:Int) (i:Int) (k:Int) (n_:Int) (j:Int) (x_:At):Wy zu1 (At×Unit) zXh:=.i (decide (j<Int.ofNat x_.Items.length)) (.i (decide (0<=j)&&decide (j<Int.ofNat x_.Items.length)) (.bn (zbf (x_.Items.getD j.toNat default).Ann) λr2=>.h (a,most,i,k,(),(if IntKind.i64.wrap (1+r2)>n_ then IntKind.i64.wrap (1+r2) else n_),(IntKind.i64.wrap (j+1)),()) (x_,())) .d) (.k (a,most,i,k,n_))
def zCY (zbf:yB->Bool×Int) (x:zu1) (y:At×Unit):=zlG zbf x.1 x.2.1 x.2.2.1 x.2.2.2.1 x.2.2.2.2.2.1 x.2.2.2.2.2.2.1 y.1
def zCP (zbf:yB->Bool×Int) (n:Nat) (a:yB) (most:Int) (i:Int) (k:Int) (n_:Int) (j:Int) (x_:At):=zx (zCY zbf) default n (a,most,i,k,(),n_,j,()) (x_,())
def zmQ (zbf:yB->Bool×Int) (a:yB) (most:Int) (i:Int) (k:Int):Wy zIR Unit zXv:=.i (decide (0<=i)&&decide (i<Int.ofNat a.length)) (.i (decide (k<Int.ofNat (a.getD i.toNat default).Fs.length)) (.i (decide (0<=i)&&decide (i<Int.ofNat a.length)) (.i (decide (0<=k)&&decide (k<Int.ofNat (a.getD i.toNat default).Fs.length)) (.i (((a.getD i.toNat default).Fs.getD k.toNat default).At.Kind==0) (.h (a,most,i,(IntKind.i64.wrap (k+1)),()) ()) (.bn (zwO zbf ((a.length+most.toNat +i.toNat +k.toNat +Int.toNat 1+Int.toNat 0+((a.getD i.toNat default).Fs.getD k.toNat default).At.Ag.length+((a.getD i.toNat default).Fs.getD k.toNat default).At.Items.length+1)+zgt a) a most i k 1 0 (At.mk ((a.getD i.toNat default).Fs.getD k.toNat default).At.Kind ((a.getD i.toNat default).Fs.getD k.toNat default).At.Row ((a.getD i.toNat default).Fs.getD k.toNat default).At.Ag ((a.getD i.toNat default).Fs.getD k.toNat default).At.Func ((a.getD i.toNat default).Fs.getD k.toNat default).At.Items ((a.getD i.toNat default).Fs.getD k.toNat default).At.Op ((a.getD i.toNat default).Fs.getD k.toNat default).At.Bd)) λr5=>.bn (zCP zbf ((r5.1.length+r5.2.1.toNat +r5.2.2.1.toNat +r5.2.2.2.1.toNat +r5.2.2.2.2.1.toNat +Int.toNat 0+r5.2.2.2.2.2.Ag.length+r5.2.2.2.2.2.Items.length+1)+zgt r5.1) r5.1 r5.2.1 r5.2.2.1 r5.2.2.2.1 r5.2.2.2.2.1 0 (At.mk r5.2.2.2.2.2.Kind r5.2.2.2.2.2.Row r5.2.2.2.2.2.Ag r5.2.2.2.2.2.Func r5.2.2.2.2.2.Items r5.2.2.2.2.2.Op r5.2.2.2.2.2.Bd)) λr4=>.h ((r4.1),(if r4.2.2.2.2>r4.2.1 then r4.2.2.2.2 else r4.2.1),(r4.2.2.1),(IntKind.i64.wrap (r4.2.2.2.1+1)),()) ())) .d) .d) (.k (a,most,i))) .d
def zFB (zbf:yB->Bool×Int) (x:zIR) (y:Unit):=zmQ zbf x.1 x.2.1 x.2.2.1 x.2.2.2.1
def zEf (zbf:yB->Bool×Int) (n:Nat) (a:yB) (most:Int) (i:Int) (k:Int):=zx (zFB zbf) default n (a,most,i,k,()) ()
def zmC (zbf:yB->Bool×Int) (a:yB) (most:Int) (i:Int):Wy zIE Unit (Int):=.i (decide (i<Int.ofNat a.length)) (.bn (zEf zbf ((a.length+most.toNat +i.toNat +Int.toNat 0+1)+zgt a) a most i 0) λr8=>.h ((r8.1),(r8.2.1),(IntKind.i64.wrap (r8.2.2+1)),()) ()) (.k most)
def zFd (zbf:yB->Bool×Int) (x:zIE) (y:Unit):=zmC zbf x.1 x.2.1 x.2.2.1
def zEE (zbf:yB->Bool×Int) (n:Nat) (a:yB) (most:Int) (i:Int):=zx (zFd zbf) default n (a,most,i,()) ()
def zGK (zbf:yB->Bool×Int) (a:yB):Wy0 (Int):=.bn (zEE zbf ((a.length+Int.toNat 0+Int.toNat 0+1)+zgt a) a 0 0) λr10=>.k r10
def zB1 (zbf:yB->Bool×Int) (a:yB):=(zGK zbf a).fin default
def zTX:Nat->(yB->Bool×Int)
 | 0=>λ_=>(false,default)
 | n+1=>zB1 (zTX n)
def znn (n:Nat):yB->Bool×Int:=zTX n
theorem zS4 (n:Nat):znn (n+1)=zB1 (znn n):=rfl
def zQX:yB->Bool×Int:=znn 1000
mutual
def ze6:At->Nat
 | ⟨_,_,a,_,i,_,_⟩=>zeY a+zda i
def zbH:yC->Nat
 | []=>0
 | ⟨x,_⟩::r=>ze6 x+zbH r
def zM:yB->Nat
 | []=>0
 | ⟨_,fs⟩::r=>1+fs.length+zbH fs+zM r
def zeY:yA->Nat
 | []=>0
 | a::r=>zM a+zeY r
def zda:yD->Nat
 | []=>0
 | ⟨_,a⟩::r=>1+zM a+zda r
end
theorem zhj (x:At):ze6 x=zeY x.Ag+zda x.Items:=by cases x; rw [ze6]
theorem zcZ (f:Fc) (r:yC):zbH (f::r)=ze6 f.At+zbH r:=by cases f; rw [zbH]
theorem zfL (t:Term) (r:yB):zM (t::r)=1+t.Fs.length+zbH t.Fs+zM r:=by cases t; rw [zM]
theorem zeH (a:yB) (r:yA):zeY (a::r)=zM a+zeY r:=by rw [zeY]
theorem zh8 (w:Wd) (r:yD):zda (w::r)=1+zM w.Ann+zda r:=by cases w; rw [zda]
theorem zgK:zeY []=0:=by rw [zeY]
theorem zfs:zda []=0:=by rw [zda]
theorem ziq:zbH []=0:=by rw [zbH]
theorem zvC:zM []=0:=by rw [zM]
theorem zYP (l:yA):∀ n:Nat,l.foldl (λs t=>s+zM t) n=n+zeY l:=by
 induction l with
 | nil=>intro n; rw [zgK]; rfl
 | cons a r ih=>intro n; rw [List.foldl_cons,ih,zeH]; omega
theorem zWy (l:yD):∀ n:Nat,l.foldl (λs t=>s+1+zM t.Ann) n=n+zda l:=by
 induction l with
 | nil=>intro n; rw [zfs]; rfl
 | cons a r ih=>intro n; rw [List.foldl_cons,ih,zh8]; omega
theorem z2r (l:yC):∀ n:Nat,l.foldl (λs t=>s+ze6 t.At) n=n+zbH l:=by
 induction l with
 | nil=>intro n; rw [ziq]; rfl
 | cons a r ih=>intro n; rw [List.foldl_cons,ih,zcZ]; omega
theorem z1H (l:yB):∀ n:Nat,l.foldl (λs t=>s+1+t.Fs.length+zbH t.Fs) n=n+zM l:=by
 induction l with
 | nil=>intro n; rw [zvC]; rfl
 | cons a r ih=>intro n; rw [List.foldl_cons,ih,zfL]; omega
theorem znQ {n m:Nat} (h:n+m<=4611686018427387904):IntKind.i64.wrap ((n:Int)+(m:Int))=((n+m:Nat):Int):=by
 rw [zM8 (by omega) (by omega)]; omega
theorem zgF {i:Nat} (h:i<4611686018427387904):IntKind.i64.wrap ((i:Int)+1)=((i+1:Nat):Int):=zy h
section
variable (g:yB->Bool×Int)
theorem zbba (l:yA) (hl:l.length<=1000000) (hg:∀ y∈l,g y=(true,(zM y:Int))) (t12:yB) (t13 t14:Int) (t25:yC) (t26 t27:Int) (f:Fc) (fuel n:Nat) (hf:l.length<fuel) (hn:n+zeY l<=4611686018427387904):
  zAZ g fuel n t12 t13 t14 t25 t26 t27 l l.length 0 f=(true,(((n+zeY l:Nat):Int),t12,t13,t14,t25,t26,t27,f)):=by
 have h:=zcV (W:=ztX g) (z:=default) (l:=l) (λi (n:Nat)=>((n:Int),(),t12,t13,t14,t25,t26,t27,l,(l.length:Int),(i:Int),())) (λ_ _=>(f,())) (λy n=>.inl (n+zM y)) (λn=>((n:Int),t12,t13,t14,t25,t26,t27,f)) (λi n=>n+zeY (l.drop i)<=4611686018427387904)
  (λi n hi hI=>.inl ⟨_,rfl,by rw [zbh hi,zeH] at hI; omega,λH K D=>by
   rw [zbh hi,zeH] at hI;show (zjR g n t12 t13 t14 t25 t26 t27 l l.length i f).ev H K D=_;unfold zjR;simp only [Wy.ev_i,Wy.ev_k,Wy.ev_h,Wy.ev_bn,Wy.ev_d,tT,hi,hg _ (zm hi)];rw [znQ (by omega),zgF (by omega)]⟩)
  (λn hI H K D=>by
   show (zjR g n t12 t13 t14 t25 t26 t27 l l.length l.length f).ev H K D=_;unfold zjR;simp only [Wy.ev_i,Wy.ev_k,tT,Nat.lt_irrefl]) fuel 0 n (by omega) (Nat.zero_le _) (by simpa using hn)
 rw [List.drop_zero,zcU,zYP] at h;exact h
theorem zbbb (l:yD) (hl:l.length<=1000000) (hg:∀ y∈l,g y.Ann=(true,(zM y.Ann:Int))) (t12:yB) (t13 t14:Int) (t25:yC) (t26 t27:Int) (fuel n:Nat) (hf:l.length<fuel) (hn:n+zda l<=4611686018427387904):
  zAK g fuel n t12 t13 t14 t25 t26 t27 l l.length 0=(true,(((n+zda l:Nat):Int),t12,t13,t14,t25,t26,t27)):=by
 have h:=zcV (W:=zt1 g) (z:=default) (l:=l) (λi (n:Nat)=>((n:Int),t12,t13,t14,t25,t26,t27,l,(l.length:Int),(i:Int),())) (λ_ _=>()) (λy n=>.inl (n+1+zM y.Ann)) (λn=>((n:Int),t12,t13,t14,t25,t26,t27)) (λi n=>n+zda (l.drop i)<=4611686018427387904)
  (λi n hi hI=>.inl ⟨_,rfl,by rw [zbh hi,zh8] at hI; omega,λH K D=>by
   rw [zbh hi,zh8] at hI;show (zjP g n t12 t13 t14 t25 t26 t27 l l.length i).ev H K D=_;unfold zjP;simp only [Wy.ev_i,Wy.ev_k,Wy.ev_h,Wy.ev_bn,Wy.ev_d,tT,hi,hg _ (zm hi)];rw [zgF (by omega),show (1:Int)=((1:Nat):Int) from rfl,znQ (by omega),znQ (by omega), <- Nat.add_assoc]⟩)
  (λn hI H K D=>by
   show (zjP g n t12 t13 t14 t25 t26 t27 l l.length l.length).ev H K D=_;unfold zjP;simp only [Wy.ev_i,Wy.ev_k,tT,Nat.lt_irrefl]) fuel 0 n (by omega) (Nat.zero_le _) (by simpa using hn)
 rw [List.drop_zero,zcU,zWy] at h;exact h
theorem zbcV (l:yC) (hl:l.length<=1000000) (hg:∀ f∈l,(f.At.Ag.length<=1000000/\f.At.Items.length<=1000000)/\(∀ y∈f.At.Ag,g y=(true,(zM y:Int)))/\∀ y∈f.At.Items,g y.Ann=(true,(zM y.Ann:Int))) (t12:yB) (t13 t14:Int) (fuel n:Nat) (hf:l.length<fuel) (hn:n+zbH l<=4611686018427387904):
  zCg g fuel n t12 t13 t14 l l.length 0=(true,(((n+zbH l:Nat):Int),t12,t13,t14)):=by
 have h:=zcV (W:=zvf g) (z:=default) (l:=l) (λi (n:Nat)=>((n:Int),t12,t13,t14,l,(l.length:Int),(i:Int),())) (λ_ _=>()) (λy n=>.inl (n+ze6 y.At)) (λn=>((n:Int),t12,t13,t14)) (λi n=>n+zbH (l.drop i)<=4611686018427387904)
  (λi n hi hI=>.inl ⟨_,rfl,by rw [zbh hi,zcZ] at hI; omega,λH K D=>by
   rw [zbh hi,zcZ,zhj] at hI;obtain ⟨⟨h1,h2⟩,h3,h4⟩:=hg _ (zm hi);show (zkq g n t12 t13 t14 l l.length i).ev H K D=_;unfold zkq;simp only [Wy.ev_i,Wy.ev_k,Wy.ev_h,Wy.ev_bn,Wy.ev_d,tT,hi,At.eta];rw [zbba g _ h1 h3 _ _ _ _ _ _ _ _ _ (by omega) (by omega)]
   simp only [cond_true,Int.toNat_natCast];rw [zbbb g _ h2 h4 _ _ _ _ _ _ _ _ (by omega) (by omega)]
   simp only [cond_true];rw [zgF (by omega),zhj,Nat.add_assoc]⟩)
  (λn hI H K D=>by
   show (zkq g n t12 t13 t14 l l.length l.length).ev H K D=_;unfold zkq;simp only [Wy.ev_i,Wy.ev_k,tT,Nat.lt_irrefl]) fuel 0 n (by omega) (Nat.zero_le _) (by simpa using hn)
 rw [List.drop_zero,zcU,z2r] at h;exact h
theorem zbdf (l:yB) (hl:l.length<=1000000) (hg:∀ t∈l,t.Fs.length<=1000000/\∀ f∈t.Fs,(f.At.Ag.length<=1000000/\f.At.Items.length<=1000000)/\(∀ y∈f.At.Ag,g y=(true,(zM y:Int)))/\∀ y∈f.At.Items,g y.Ann=(true,(zM y.Ann:Int))) (fuel n:Nat) (hf:l.length<fuel) (hn:n+zM l<=4611686018427387904):
  zCn g fuel n l l.length 0=(true,((n+zM l:Nat):Int)):=by
 have h:=zcV (W:=zvd g) (z:=default) (l:=l) (λi (n:Nat)=>((n:Int),l,(l.length:Int),(i:Int),())) (λ_ _=>()) (λy n=>.inl (n+1+y.Fs.length+zbH y.Fs)) (λn=>(n:Int)) (λi n=>n+zM (l.drop i)<=4611686018427387904)
  (λi n hi hI=>.inl ⟨_,rfl,by rw [zbh hi,zfL] at hI; omega,λH K D=>by
   rw [zbh hi,zfL] at hI;obtain ⟨h1,h3⟩:=hg _ (zm hi);show (zkC g n l l.length i).ev H K D=_;unfold zkC;simp only [Wy.ev_i,Wy.ev_k,Wy.ev_h,Wy.ev_bn,Wy.ev_d,tT,hi,At.eta];rw [show (1:Int)=((1:Nat):Int) from rfl,znQ (n:=1) (by omega),znQ (by omega)]
   rw [zbcV g _ h1 h3 _ _ _ _ _ (by omega) (by omega)]
   simp only [cond_true];rw [show ((1:Nat):Int)=(1:Int) from rfl,zgF (by omega),Nat.add_assoc n 1]⟩)
  (λn hI H K D=>by
   show (zkC g n l l.length l.length).ev H K D=_;unfold zkC;simp only [Wy.ev_i,Wy.ev_k,tT,Nat.lt_irrefl]) fuel 0 n (by omega) (Nat.zero_le _) (by simpa using hn)
 rw [List.drop_zero,zcU,z1H] at h;exact h
theorem z9t (x:At) (hl:x.Ag.length<=1000000) (hg:∀ y∈x.Ag,g y=(true,(zM y:Int))) (a:yB) (i k:Int) (fuel n:Nat) (hf:x.Ag.length<fuel) (hn:n+zeY x.Ag<=4611686018427387904):
  zIQ g fuel a n i k 0 x=(true,(a,((n+zeY x.Ag:Nat):Int),i,k,x)):=by
 have h:=zcV (W:=zJJ g) (z:=default) (l:=x.Ag) (λj (n:Nat)=>(a,(n:Int),i,k,(),(j:Int),())) (λ_ _=>(x,())) (λy n=>.inl (n+zM y)) (λn=>(a,(n:Int),i,k,x)) (λi n=>n+zeY (x.Ag.drop i)<=4611686018427387904)
  (λj n hi hI=>.inl ⟨_,rfl,by rw [zbh hi,zeH] at hI; omega,λH K D=>by
   rw [zbh hi,zeH] at hI;show (zpZ g a n i k j x).ev H K D=_;unfold zpZ;simp only [Wy.ev_i,Wy.ev_k,Wy.ev_h,Wy.ev_bn,Wy.ev_d,tT,hi,hg _ (zm hi)];rw [znQ (by omega),zgF (by omega)]⟩)
  (λn hI H K D=>by
   show (zpZ g a n i k x.Ag.length x).ev H K D=_;unfold zpZ;simp only [Wy.ev_i,Wy.ev_k,tT,Nat.lt_irrefl]) fuel 0 n (by omega) (Nat.zero_le _) (by simpa using hn)
 rw [List.drop_zero,zcU,zYP] at h;exact h
theorem z99 (x:At) (hl:x.Items.length<=1000000) (hg:∀ y∈x.Items,g y.Ann=(true,(zM y.Ann:Int))) (a:yB) (i k:Int) (fuel n:Nat) (hf:x.Items.length<fuel) (hn:n+zda x.Items<=4611686018427387904):
  zJt g fuel a n i k 0 x=(true,(a,((n+zda x.Items:Nat):Int),i,k)):=by
 have h:=zcV (W:=zJe g) (z:=default) (l:=x.Items) (λj (n:Nat)=>(a,(n:Int),i,k,(),(j:Int),())) (λ_ _=>(x,())) (λy n=>.inl (n+1+zM y.Ann)) (λn=>(a,(n:Int),i,k)) (λi n=>n+zda (x.Items.drop i)<=4611686018427387904)
  (λj n hi hI=>.inl ⟨_,rfl,by rw [zbh hi,zh8] at hI; omega,λH K D=>by
   rw [zbh hi,zh8] at hI;show (zqn g a n i k j x).ev H K D=_;unfold zqn;simp only [Wy.ev_i,Wy.ev_k,Wy.ev_h,Wy.ev_bn,Wy.ev_d,tT,hi,hg _ (zm hi)];rw [zgF (i:=j) (by omega),zgF (i:=n) (by omega),znQ (by omega)]⟩)
  (λn hI H K D=>by
   show (zqn g a n i k x.Items.length x).ev H K D=_;unfold zqn;simp only [Wy.ev_i,Wy.ev_k,tT,Nat.lt_irrefl]) fuel 0 n (by omega) (Nat.zero_le _) (by simpa using hn)
 rw [List.drop_zero,zcU,zWy] at h;exact h
theorem zJ1:∀ (a:yB) (i:Nat),i<a.length->(a.getD i default).Fs.length<=zgt a
 | [],i,h=>by simp at h
 | t::r,0,h=>by
  have:∀ l:yC,l.length<=z38 l:=λl=>by
   induction l with
   | nil=>exact Nat.le_refl _
   | cons f r ih=>simp only [z38,qf]; omega
  have:=this t.Fs;simp only [zgt,List.getD_cons_zero]; omega
 | t::r,i+1,h=>by
  have:=zJ1 r i (by simpa using h)
  simp only [zgt,List.getD_cons_succ]; omega
theorem foldl_factors' (l:yC):∀ n:Nat,l.foldl (λs t=>s+1+ze6 t.At) n=n+l.length+zbH l:=by
 induction l with
 | nil=>intro n; rw [ziq]; rfl
 | cons a r ih=>intro n; rw [List.foldl_cons,ih,zcZ,qf]; omega
theorem zba6 (a:yB) (i:Nat) (hi:i<a.length) (hla:a.length<=1000000) (l:yC) (el:(a.getD i default).Fs=l) (hl:l.length<=1000000) (hg:∀ f∈l,(f.At.Ag.length<=1000000/\f.At.Items.length<=1000000)/\(∀ y∈f.At.Ag,g y=(true,(zM y:Int)))/\∀ y∈f.At.Items,g y.Ann=(true,(zM y.Ann:Int))) (fuel n:Nat) (hf:l.length<fuel) (hn:n+l.length+zbH l<=4611686018427387904):
  zLp g fuel a n i 0=(true,(a,((n+l.length+zbH l:Nat):Int),(i:Int))):=by
 have h:=zcV (W:=zLb g) (z:=default) (l:=l) (λk (n:Nat)=>(a,(n:Int),(i:Int),(k:Int),())) (λ_ _=>()) (λy n=>.inl (n+1+ze6 y.At)) (λn=>(a,(n:Int),(i:Int))) (λk n=>n+(l.drop k).length+zbH (l.drop k)<=4611686018427387904)
  (λk n hk hI=>.inl ⟨_,rfl,by rw [zbh hk,zcZ,qf] at hI; omega,λH K D=>by
   rw [zbh hk,zcZ,zhj,qf] at hI;obtain ⟨⟨h1,h2⟩,h3,h4⟩:=hg _ (zm hk);show (zsj g a n i k).ev H K D=_;unfold zsj;simp only [Wy.ev_i,Wy.ev_k,Wy.ev_h,Wy.ev_bn,Wy.ev_d,tT,hi,el,hk,At.eta];rw [zgF (i:=n) (by omega)]
   rw [z9t g _ h1 h3 _ _ _ _ _ (by omega) (by omega)]
   simp only [cond_true,Int.toNat_natCast,At.eta];rw [z99 g _ h2 h4 _ _ _ _ _ (by omega) (by omega)]
   simp only [cond_true];rw [zgF (by omega),zhj,Nat.add_assoc (n+1)]⟩)
  (λn hI H K D=>by
   show (zsj g a n i l.length).ev H K D=_;unfold zsj;simp only [Wy.ev_i,Wy.ev_k,tT,hi,el,Nat.lt_irrefl]) fuel 0 n (by omega) (Nat.zero_le _) (by simpa using hn)
 rw [List.drop_zero,zcU,foldl_factors'] at h;exact h
theorem zbbl (l:yB) (hl:l.length<=1000000) (hg:∀ t∈l,t.Fs.length<=1000000/\∀ f∈t.Fs,(f.At.Ag.length<=1000000/\f.At.Items.length<=1000000)/\(∀ y∈f.At.Ag,g y=(true,(zM y:Int)))/\∀ y∈f.At.Items,g y.Ann=(true,(zM y.Ann:Int))) (fuel n:Nat) (hf:l.length<fuel) (hn:n+zM l<=4611686018427387904):
  zLC g fuel l n 0=(true,((n+zM l:Nat):Int)):=by
 have h:=zcV (W:=zLd g) (z:=default) (l:=l) (λi (n:Nat)=>(l,(n:Int),(i:Int),())) (λ_ _=>()) (λy n=>.inl (n+1+y.Fs.length+zbH y.Fs)) (λn=>(n:Int)) (λi n=>n+zM (l.drop i)<=4611686018427387904)
  (λi n hi hI=>.inl ⟨_,rfl,by rw [zbh hi,zfL] at hI; omega,λH K D=>by
   rw [zbh hi,zfL] at hI;obtain ⟨h1,h3⟩:=hg _ (zm hi);have hz:=zJ1 l i hi;show (zsJ g l n i).ev H K D=_;unfold zsJ;simp only [Wy.ev_i,Wy.ev_k,Wy.ev_h,Wy.ev_bn,Wy.ev_d,tT,hi,At.eta];rw [zgF (i:=n) (by omega)]
   rw [zba6 g l i hi hl _ rfl h1 h3 _ _ (by omega) (by omega)]
   simp only [cond_true];rw [zgF (by omega)]⟩)
  (λn hI H K D=>by
   show (zsJ g l n l.length).ev H K D=_;unfold zsJ;simp only [Wy.ev_i,Wy.ev_k,tT,Nat.lt_irrefl]) fuel 0 n (by omega) (Nat.zero_le _) (by simpa using hn)
 rw [List.drop_zero,zcU,z1H] at h;exact h
end
theorem z5J {l:yA} {y:yB} (h:y∈l):zM y<=zeY l:=by
 induction l with
 | nil=>cases h
 | cons a r ih=>
  rw [zeH];rcases qd.1 h with rfl | h
  ·omega
  ·have:=ih h; omega
theorem z3y {l:yD} {y:Wd} (h:y∈l):zM y.Ann<=zda l:=by
 induction l with
 | nil=>cases h
 | cons a r ih=>
  rw [zh8];rcases qd.1 h with rfl | h
  ·omega
  ·have:=ih h; omega
theorem zNA {l:yC} {y:Fc} (h:y∈l):ze6 y.At<=zbH l:=by
 induction l with
 | nil=>cases h
 | cons a r ih=>
  rw [zcZ];rcases qd.1 h with rfl | h
  ·omega
  ·have:=ih h; omega
theorem z7z {l:yB} {y:Term} (h:y∈l):zbH y.Fs<=zM l:=by
 induction l with
 | nil=>cases h
 | cons a r ih=>
  rw [zfL];rcases qd.1 h with rfl | h
  ·omega
  ·have:=ih h; omega
theorem z0Q {a:yB} {t:Term} {f:Fc} (ht:t∈a) (hf:f∈t.Fs):zeY f.At.Ag+zda f.At.Items<=zM a:=by
 have h1:=z7z ht; have h2:=zNA hf; rw [zhj] at h2; omega
theorem zMV {d:Nat} {a:yB} (h:zn (d+1) a) {t:Term} (ht:t∈a):t.Fs.length<=1000000/\∀ f∈t.Fs,(f.At.Ag.length<=1000000/\f.At.Items.length<=1000000)/\(∀ y∈f.At.Ag,zn d y)/\∀ y∈f.At.Items,zn d y.Ann:=
 ⟨(h.2 t ht).1,λf hf=>have q:=(h.2 t ht).2 f hf; ⟨⟨q.1.1,q.1.2.1⟩,q.2.1,λy hy=>(q.2.2 y hy).2⟩⟩
theorem zXG:∀ (n d:Nat) (a:yB),zn d a->d<=n->zM a<=4611686018427387904->zk0 n a=(true,(zM a:Int))/\zxA n a=(true,(zM a:Int))
 | n,0,a,h,hd,hs=>h.elim
 | 0,d+1,a,h,hd,hs=>by omega
 | n+1,d+1,a,h,hd,hs=>by
  have hg:=λy (hy:zn d y) (hs:zM y<=4611686018427387904)=>zXG n d y hy (by omega) hs
  have hsub:∀ t∈a,t.Fs.length<=1000000/\∀ f∈t.Fs,(f.At.Ag.length<=1000000/\f.At.Items.length<=1000000)/\(∀ y∈f.At.Ag,zn d y/\zM y<=4611686018427387904)/\∀ y∈f.At.Items,zn d y.Ann/\zM y.Ann<=4611686018427387904:=λt ht=>by
   obtain ⟨h1,h2⟩:=zMV h ht;refine ⟨h1,λf hf=> ?_⟩
   obtain ⟨h3,h4,h5⟩:=h2 f hf;have h6:=z0Q ht hf;exact ⟨h3,λy hy=>⟨h4 y hy,by have:=z5J hy; omega⟩,λy hy=>⟨h5 y hy,by have:=z3y hy; omega⟩⟩
  constructor
  ·rw [zPS];unfold ztw zC4
   have h1:=zbdf (zk0 n) a h.1 (λt ht=>⟨(hsub t ht).1,λf hf=>⟨((hsub t ht).2 f hf).1,λy hy=>(hg y (((hsub t ht).2 f hf).2.1 y hy).1 (((hsub t ht).2 f hf).2.1 y hy).2).1,λy hy=>(hg _ (((hsub t ht).2 f hf).2.2 y hy).1 (((hsub t ht).2 f hf).2.2 y hy).2).1⟩⟩)
    (Int.toNat 0+a.length+(Int.ofNat a.length).toNat +Int.toNat 0+1) 0 (by omega) (by omega)
   rw [show ((0:Nat):Int)=(0:Int) from rfl,Nat.zero_add] at h1
   rw [Wy.fin_bn,show Int.ofNat a.length=(a.length:Int) from rfl] at *
   rw [h1]; rfl
  ·rw [zYB];unfold zJN zNr
   have h1:=zbbl (zxA n) a h.1 (λt ht=>⟨(hsub t ht).1,λf hf=>⟨((hsub t ht).2 f hf).1,λy hy=>(hg y (((hsub t ht).2 f hf).2.1 y hy).1 (((hsub t ht).2 f hf).2.1 y hy).2).2,λy hy=>(hg _ (((hsub t ht).2 f hf).2.2 y hy).1 (((hsub t ht).2 f hf).2.2 y hy).2).2⟩⟩)
    (a.length+Int.toNat 0+Int.toNat 0+1+zgt a) 0 (by omega) (by omega)
   rw [show ((0:Nat):Int)=(0:Int) from rfl,Nat.zero_add] at h1
   rw [Wy.fin_bn,h1]; rfl
mutual
def znh:At->Nat
 | ⟨k,_,a,_,i,_,_⟩=>if k=0 then 0 else 1+max (zlY a) (zkN i)
def zdi:yC->Nat
 | []=>0
 | ⟨x,_⟩::r=>max (znh x) (zdi r)
def zbm:yB->Nat
 | []=>0
 | ⟨_,fs⟩::r=>max (zdi fs) (zbm r)
def zlY:yA->Nat
 | []=>0
 | a::r=>max (zbm a) (zlY r)
def zkN:yD->Nat
 | []=>0
 | ⟨_,a⟩::r=>max (zbm a) (zkN r)
end
theorem zBG (x:At):znh x=if x.Kind=0 then 0 else 1+max (zlY x.Ag) (zkN x.Items):=by cases x; rw [znh]
theorem zi0 (f:Fc) (r:yC):zdi (f::r)=max (znh f.At) (zdi r):=by cases f; rw [zdi]
theorem zwq (t:Term) (r:yB):zbm (t::r)=max (zdi t.Fs) (zbm r):=by cases t; rw [zbm]
theorem zBM (a:yB) (r:yA):zlY (a::r)=max (zbm a) (zlY r):=by rw [zlY]
theorem zzS (w:Wd) (r:yD):zkN (w::r)=max (zbm w.Ann) (zkN r):=by cases w; rw [zkN]
theorem zMk:zlY []=0:=by rw [zlY]
theorem zIs:zkN []=0:=by rw [zkN]
theorem zpQ:zdi []=0:=by rw [zdi]
theorem zHD:zbm []=0:=by rw [zbm]
theorem z60 (l:yA):∀ n:Nat,l.foldl (λs t=>max s (zbm t)) n=max n (zlY l):=by
 induction l with
 | nil=>intro n; rw [zMk]; exact (Nat.max_zero n).symm
 | cons a r ih=>intro n; rw [List.foldl_cons,ih,zBM]; omega
theorem z5B (l:yD):∀ n:Nat,l.foldl (λs t=>max s (zbm t.Ann)) n=max n (zkN l):=by
 induction l with
 | nil=>intro n; rw [zIs]; exact (Nat.max_zero n).symm
 | cons a r ih=>intro n; rw [List.foldl_cons,ih,zzS]; omega
theorem z5Q (l:yA):∀ n:Nat,l.foldl (λs t=>max s (1+zbm t)) (1+n)=1+max n (zlY l):=by
 induction l with
 | nil=>intro n; rw [zMk]; simp
 | cons a r ih=>intro n; rw [List.foldl_cons,show max (1+n) (1+zbm a)=1+max n (zbm a) by omega,ih,zBM]; omega
theorem z3t (l:yD):∀ n:Nat,l.foldl (λs t=>max s (1+zbm t.Ann)) (1+n)=1+max n (zkN l):=by
 induction l with
 | nil=>intro n; rw [zIs]; simp
 | cons a r ih=>intro n; rw [List.foldl_cons,show max (1+n) (1+zbm a.Ann)=1+max n (zbm a.Ann) by omega,ih,zzS]; omega
theorem zQT (l:yC):∀ n:Nat,l.foldl (λs t=>max s (znh t.At)) n=max n (zdi l):=by
 induction l with
 | nil=>intro n; rw [zpQ]; exact (Nat.max_zero n).symm
 | cons a r ih=>intro n; rw [List.foldl_cons,ih,zi0]; omega
theorem z1D (l:yB):∀ n:Nat,l.foldl (λs t=>max s (zdi t.Fs)) n=max n (zbm l):=by
 induction l with
 | nil=>intro n; rw [zHD]; exact (Nat.max_zero n).symm
 | cons a r ih=>intro n; rw [List.foldl_cons,ih,zwq]; omega
theorem zVd (a b:Nat):(if (a:Int)>(b:Int) then (a:Int) else (b:Int))=((max b a:Nat):Int):=by split <;>omega
theorem zXX {d:Nat}:∀ l:yA,(∀ y∈l,zbm y<=d)->zlY l<=d:=λl=>by
 induction l with
 | nil=>intro _; rw [zMk]; omega
 | cons y r ih=>intro hy; rw [zBM]; have h1:=hy y (by simp); have h2:=ih λz hz=>hy z (by simp [hz]); omega
theorem zV0 {d:Nat}:∀ l:yD,(∀ y∈l,zbm y.Ann<=d)->zkN l<=d:=λl=>by
 induction l with
 | nil=>intro _; rw [zIs]; omega
 | cons y r ih=>intro hy; rw [zzS]; have h1:=hy y (by simp); have h2:=ih λz hz=>hy z (by simp [hz]); omega
theorem z2z {d:Nat}:∀ l:yC,(∀ y∈l,znh y.At<=d)->zdi l<=d:=λl=>by
 induction l with
 | nil=>intro _; rw [zpQ]; omega
 | cons y r ih=>intro hy; rw [zi0]; have h1:=hy y (by simp); have h2:=ih λz hz=>hy z (by simp [hz]); omega
theorem z9c {d:Nat}:∀ l:yB,(∀ y∈l,zdi y.Fs<=d)->zbm l<=d:=λl=>by
 induction l with
 | nil=>intro _; rw [zHD]; omega
 | cons y r ih=>intro hy; rw [zwq]; have h1:=hy y (by simp); have h2:=ih λz hz=>hy z (by simp [hz]); omega
theorem zPk:∀ (d:Nat) (a:yB),zn d a->zbm a<=d
 | 0,a,h=>h.elim
 | d+1,a,h=>z9c a λt ht=>z2z _ λf hf=>by
  obtain ⟨_,h2⟩:=zMV h ht;obtain ⟨_,h4,h5⟩:=h2 f hf;have q1:=zXX f.At.Ag λy hy=>zPk d y (h4 y hy)
  have q2:=zV0 f.At.Items λy hy=>zPk d y.Ann (h5 y hy)
  rw [zBG]; split <;>omega
section
variable (g:yB->Bool×Int)
theorem zbcB (l:yA) (hl:l.length<=1000000) (hg:∀ y∈l,g y=(true,(zbm y:Int))) (nn:Int) (t13:yB) (t14 t15:Int) (t20:yC) (t21 t22:Int) (f:Fc) (fuel n:Nat) (hf:l.length<fuel):
  zxS g fuel nn n t13 t14 t15 t20 t21 t22 l l.length 0 f=(true,(nn,((max n (zlY l):Nat):Int),t13,t14,t15,t20,t21,t22,f)):=by
 have h:=zcV (W:=zp1 g) (z:=default) (l:=l) (λi (n:Nat)=>(nn,(),(n:Int),t13,t14,t15,t20,t21,t22,l,(l.length:Int),(i:Int),())) (λ_ _=>(f,())) (λy n=>.inl (max n (zbm y))) (λn=>(nn,(n:Int),t13,t14,t15,t20,t21,t22,f)) (λi n=>True)
  (λi n hi hI=>.inl ⟨_,rfl,trivial,λH K D=>by
   show (zh7 g nn n t13 t14 t15 t20 t21 t22 l l.length i f).ev H K D=_;unfold zh7;simp only [Wy.ev_i,Wy.ev_k,Wy.ev_h,Wy.ev_bn,Wy.ev_d,tT,hi,hg _ (zm hi),zVd];rw [zgF (by omega)]⟩)
  (λn hI H K D=>by
   show (zh7 g nn n t13 t14 t15 t20 t21 t22 l l.length l.length f).ev H K D=_;unfold zh7;simp only [Wy.ev_i,Wy.ev_k,tT,Nat.lt_irrefl]) fuel 0 n (by omega) (Nat.zero_le _) trivial
 rw [List.drop_zero,zcU,z60] at h;exact h
theorem zbdS (l:yD) (hl:l.length<=1000000) (hg:∀ y∈l,g y.Ann=(true,(zbm y.Ann:Int))) (nn:Int) (t13:yB) (t14 t15:Int) (t20:yC) (t21 t22:Int) (fuel n:Nat) (hf:l.length<fuel):
  zxL g fuel nn n t13 t14 t15 t20 t21 t22 l l.length 0=(true,(nn,((max n (zkN l):Nat):Int),t13,t14,t15,t20,t21,t22)):=by
 have h:=zcV (W:=zqR g) (z:=default) (l:=l) (λi (n:Nat)=>(nn,(n:Int),t13,t14,t15,t20,t21,t22,l,(l.length:Int),(i:Int),())) (λ_ _=>()) (λy n=>.inl (max n (zbm y.Ann))) (λn=>(nn,(n:Int),t13,t14,t15,t20,t21,t22)) (λi n=>True)
  (λi n hi hI=>.inl ⟨_,rfl,trivial,λH K D=>by
   show (zh6 g nn n t13 t14 t15 t20 t21 t22 l l.length i).ev H K D=_;unfold zh6;simp only [Wy.ev_i,Wy.ev_k,Wy.ev_h,Wy.ev_bn,Wy.ev_d,tT,hi,hg _ (zm hi),zVd];rw [zgF (by omega)]⟩)
  (λn hI H K D=>by
   show (zh6 g nn n t13 t14 t15 t20 t21 t22 l l.length l.length).ev H K D=_;unfold zh6;simp only [Wy.ev_i,Wy.ev_k,tT,Nat.lt_irrefl]) fuel 0 n (by omega) (Nat.zero_le _) trivial
 rw [List.drop_zero,zcU,z5B] at h;exact h
def zQz (x:At):Prop:=(x.Ag.length<=1000000/\x.Items.length<=1000000)/\(znh x<=1000/\(∀ y∈x.Ag,zbm y<=1000)/\∀ y∈x.Items,zbm y.Ann<=1000)/\(∀ y∈x.Ag,g y=(true,(zbm y:Int)))/\∀ y∈x.Items,g y.Ann=(true,(zbm y.Ann:Int))
theorem zbex (l:yC) (hl:l.length<=1000000) (hg:∀ f∈l,zQz g f.At) (t13:yB) (t14 t15:Int) (fuel n:Nat) (hf:l.length<fuel):
  zyQ g fuel n t13 t14 t15 l l.length 0=(true,(((max n (zdi l):Nat):Int),t13,t14,t15)):=by
 have h:=zcV (W:=zrw g) (z:=default) (l:=l) (λi (n:Nat)=>((n:Int),t13,t14,t15,l,(l.length:Int),(i:Int),())) (λ_ _=>()) (λy n=>.inl (max n (znh y.At))) (λn=>((n:Int),t13,t14,t15)) (λi n=>True)
  (λi n hi hI=>.inl ⟨_,rfl,trivial,λH K D=>by
   obtain ⟨⟨h1,h2⟩,⟨h5,_,_⟩,h3,h4⟩:=hg _ (zm hi);show (ziH g n t13 t14 t15 l l.length i).ev H K D=_;unfold ziH;simp only [Wy.ev_i,Wy.ev_k,Wy.ev_h,Wy.ev_bn,Wy.ev_d,tT,hi,At.eta];generalize l.getD i default=f at *;rw [zBG] at h5 ⊢;by_cases hk:f.At.Kind=0
   ·have e:(f.At.Kind==0)=true:=by simp [hk]
    simp only [e,cond_true];rw [if_pos hk,Nat.max_zero,zgF (by omega)]
   ·have e:(f.At.Kind==0)=false:=by simp [hk]
    simp only [e,cond_false];rw [if_neg hk] at h5 ⊢;have q:=λfuel hf=>zbcB g _ h1 h3 n t13 t14 t15 l l.length i f fuel 0 hf
    rw [Nat.zero_max,show ((0:Nat):Int)=(0:Int) from rfl] at q
    rw [q _ (by omega)]
    simp only [cond_true,Int.toNat_natCast];rw [zbdS g _ h2 h4 n t13 t14 t15 l l.length i _ _ (by omega)]
    simp only [cond_true];rw [zgF (by omega),show (1:Int)=((1:Nat):Int) from rfl,znQ (n:=1) (by omega),zVd]⟩)
  (λn hI H K D=>by
   show (ziH g n t13 t14 t15 l l.length l.length).ev H K D=_;unfold ziH;simp only [Wy.ev_i,Wy.ev_k,tT,Nat.lt_irrefl]) fuel 0 n (by omega) (Nat.zero_le _) trivial
 rw [List.drop_zero,zcU,zQT] at h;exact h
theorem zbdT (l:yB) (hl:l.length<=1000000) (hg:∀ t∈l,t.Fs.length<=1000000/\∀ f∈t.Fs,zQz g f.At) (fuel n:Nat) (hf:l.length<fuel):
  zyV g fuel n l l.length 0=(true,((max n (zbm l):Nat):Int)):=by
 have h:=zcV (W:=zrE g) (z:=default) (l:=l) (λi (n:Nat)=>((n:Int),l,(l.length:Int),(i:Int),())) (λ_ _=>()) (λy n=>.inl (max n (zdi y.Fs))) (λn=>(n:Int)) (λi n=>True)
  (λi n hi hI=>.inl ⟨_,rfl,trivial,λH K D=>by
   obtain ⟨h1,h3⟩:=hg _ (zm hi);show (ziP g n l l.length i).ev H K D=_;unfold ziP;simp only [Wy.ev_i,Wy.ev_k,Wy.ev_h,Wy.ev_bn,Wy.ev_d,tT,hi,At.eta];rw [zbex g _ h1 h3 _ _ _ _ _ (by omega)]
   simp only [cond_true];rw [zgF (by omega)]⟩)
  (λn hI H K D=>by
   show (ziP g n l l.length l.length).ev H K D=_;unfold ziP;simp only [Wy.ev_i,Wy.ev_k,tT,Nat.lt_irrefl]) fuel 0 n (by omega) (Nat.zero_le _) trivial
 rw [List.drop_zero,zcU,z1D] at h;exact h
theorem zbbA (x:At) (hx:zQz g x) (a:yB) (most i k:Int) (fuel n:Nat) (hf:x.Ag.length<fuel):
  zwO g fuel a most i k ((1+n:Nat):Int) 0 x=(true,(a,most,i,k,((1+max n (zlY x.Ag):Nat):Int),x)):=by
 obtain ⟨⟨h1,h2⟩,⟨h5,h6,h7⟩,h3,h4⟩:=hx
 have h:=zcV (W:=zCT g) (z:=default) (l:=x.Ag) (λj (n:Nat)=>(a,most,i,k,(),(n:Int),(j:Int),())) (λ_ _=>(x,())) (λy n=>.inl (max n (1+zbm y))) (λn=>(a,most,i,k,(n:Int),x)) (λi n=>True)
  (λj n hi hI=>.inl ⟨_,rfl,trivial,λH K D=>by
   have h8:=h6 _ (zm hi);show (zlL g a most i k n j x).ev H K D=_;unfold zlL;simp only [Wy.ev_i,Wy.ev_k,Wy.ev_h,Wy.ev_bn,Wy.ev_d,tT,hi,h3 _ (zm hi)];rw [zgF (by omega),show (1:Int)=((1:Nat):Int) from rfl,znQ (n:=1) (by omega),zVd]⟩)
  (λn hI H K D=>by
   show (zlL g a most i k n x.Ag.length x).ev H K D=_;unfold zlL;simp only [Wy.ev_i,Wy.ev_k,tT,Nat.lt_irrefl]) fuel 0 (1+n) (by omega) (Nat.zero_le _) trivial
 rw [List.drop_zero,zcU,z5Q] at h;exact h
theorem zbbj (x:At) (hx:zQz g x) (a:yB) (most i k:Int) (fuel n:Nat) (hf:x.Items.length<fuel):
  zCP g fuel a most i k ((1+n:Nat):Int) 0 x=(true,(a,most,i,k,((1+max n (zkN x.Items):Nat):Int))):=by
 obtain ⟨⟨h1,h2⟩,⟨h5,h6,h7⟩,h3,h4⟩:=hx
 have h:=zcV (W:=zCY g) (z:=default) (l:=x.Items) (λj (n:Nat)=>(a,most,i,k,(),(n:Int),(j:Int),())) (λ_ _=>(x,())) (λy n=>.inl (max n (1+zbm y.Ann))) (λn=>(a,most,i,k,(n:Int))) (λi n=>True)
  (λj n hi hI=>.inl ⟨_,rfl,trivial,λH K D=>by
   have h8:=h7 _ (zm hi);show (zlG g a most i k n j x).ev H K D=_;unfold zlG;simp only [Wy.ev_i,Wy.ev_k,Wy.ev_h,Wy.ev_bn,Wy.ev_d,tT,hi,h4 _ (zm hi)];rw [zgF (by omega),show (1:Int)=((1:Nat):Int) from rfl,znQ (n:=1) (by omega),zVd]⟩)
  (λn hI H K D=>by
   show (zlG g a most i k n x.Items.length x).ev H K D=_;unfold zlG;simp only [Wy.ev_i,Wy.ev_k,tT,Nat.lt_irrefl]) fuel 0 (1+n) (by omega) (Nat.zero_le _) trivial
 rw [List.drop_zero,zcU,z3t] at h;exact h
theorem RNes_12' (x:At) (hx:zQz g x) (a:yB) (most i k:Int) (fuel:Nat) (hf:x.Ag.length<fuel):zwO g fuel a most i k 1 0 x=(true,(a,most,i,k,((1+zlY x.Ag:Nat):Int),x)):=by
 have h:=zbbA g x hx a most i k fuel 0 hf;rw [Nat.zero_max] at h; exact h
theorem zbdp (a:yB) (i:Nat) (hi:i<a.length) (hla:a.length<=1000000) (l:yC) (el:(a.getD i default).Fs=l) (hl:l.length<=1000000) (hg:∀ f∈l,zQz g f.At) (fuel n:Nat) (hf:l.length<fuel):
  zEf g fuel a n i 0=(true,(a,((max n (zdi l):Nat):Int),(i:Int))):=by
 have h:=zcV (W:=zFB g) (z:=default) (l:=l) (λk (n:Nat)=>(a,(n:Int),(i:Int),(k:Int),())) (λ_ _=>()) (λy n=>.inl (max n (znh y.At))) (λn=>(a,(n:Int),(i:Int))) (λk n=>True)
  (λk n hk hI=>.inl ⟨_,rfl,trivial,λH K D=>by
   have hx:=hg _ (zm hk);have h5:=hx.2.1.1;show (zmQ g a n i k).ev H K D=_;unfold zmQ;simp only [Wy.ev_i,Wy.ev_k,Wy.ev_h,Wy.ev_bn,Wy.ev_d,tT,hi,el,hk,At.eta];generalize l.getD k default=f at *;rw [zBG] at h5 ⊢;by_cases hz:f.At.Kind=0
   ·have e:(f.At.Kind==0)=true:=by simp [hz]
    simp only [e,cond_true];rw [if_pos hz,Nat.max_zero,zgF (by omega)]
   ·have e:(f.At.Kind==0)=false:=by simp [hz]
    have hx1:=hx.1;simp only [e,cond_false];rw [if_neg hz] at h5 ⊢;rw [RNes_12' g _ hx _ _ _ _ _ (by omega)]
    simp only [cond_true,Int.toNat_natCast,At.eta];rw [zbbj g _ hx _ _ _ _ _ _ (by omega)]
    simp only [cond_true];rw [zgF (by omega),zVd]⟩)
  (λn hI H K D=>by
   show (zmQ g a n i l.length).ev H K D=_;unfold zmQ;simp only [Wy.ev_i,Wy.ev_k,tT,hi,el,Nat.lt_irrefl]) fuel 0 n (by omega) (Nat.zero_le _) trivial
 rw [List.drop_zero,zcU,zQT] at h;exact h
theorem zbc0 (l:yB) (hl:l.length<=1000000) (hg:∀ t∈l,t.Fs.length<=1000000/\∀ f∈t.Fs,zQz g f.At) (fuel n:Nat) (hf:l.length<fuel):
  zEE g fuel l n 0=(true,((max n (zbm l):Nat):Int)):=by
 have h:=zcV (W:=zFd g) (z:=default) (l:=l) (λi (n:Nat)=>(l,(n:Int),(i:Int),())) (λ_ _=>()) (λy n=>.inl (max n (zdi y.Fs))) (λn=>(n:Int)) (λi n=>True)
  (λi n hi hI=>.inl ⟨_,rfl,trivial,λH K D=>by
   obtain ⟨h1,h3⟩:=hg _ (zm hi);have hz:=zJ1 l i hi;show (zmC g l n i).ev H K D=_;unfold zmC;simp only [Wy.ev_i,Wy.ev_k,Wy.ev_h,Wy.ev_bn,Wy.ev_d,tT,hi,At.eta];rw [zbdp g l i hi hl _ rfl h1 h3 _ _ (by omega)]
   simp only [cond_true];rw [zgF (by omega)]⟩)
  (λn hI H K D=>by
   show (zmC g l n l.length).ev H K D=_;unfold zmC;simp only [Wy.ev_i,Wy.ev_k,tT,Nat.lt_irrefl]) fuel 0 n (by omega) (Nat.zero_le _) trivial
 rw [List.drop_zero,zcU,z1D] at h;exact h
end
theorem zZG:∀ (n d:Nat) (a:yB),zn d a->d<=n->d<=100->zgg n a=(true,(zbm a:Int))/\znn n a=(true,(zbm a:Int))
 | n,0,a,h,hd,hs=>h.elim
 | 0,d+1,a,h,hd,hs=>by omega
 | n+1,d+1,a,h,hd,hs=>by
  have hg:=λy (hy:zn d y)=>zZG n d y hy (by omega) (by omega)
  have hsub:∀ t∈a,t.Fs.length<=1000000/\∀ f∈t.Fs,zQz (zgg n) f.At/\zQz (znn n) f.At:=λt ht=>by
   obtain ⟨h1,h2⟩:=zMV h ht;refine ⟨h1,λf hf=> ?_⟩
   obtain ⟨h3,h4,h5⟩:=h2 f hf;have q1:∀ y∈f.At.Ag,zbm y<=d:=λy hy=>zPk d y (h4 y hy)
   have q2:∀ y∈f.At.Items,zbm y.Ann<=d:=λy hy=>zPk d y.Ann (h5 y hy)
   have q3:znh f.At<=1000:=by
    have r1:=zXX _ q1; have r2:=zV0 _ q2;rw [zBG]; split <;>omega
   have q4:znh f.At<=1000/\(∀ y∈f.At.Ag,zbm y<=1000)/\∀ y∈f.At.Items,zbm y.Ann<=1000:=⟨q3,λy hy=>by have:=q1 y hy; omega,λy hy=>by have:=q2 y hy; omega⟩
   exact ⟨⟨h3,q4,λy hy=>(hg y (h4 y hy)).1,λy hy=>(hg _ (h5 y hy)).1⟩,⟨h3,q4,λy hy=>(hg y (h4 y hy)).2,λy hy=>(hg _ (h5 y hy)).2⟩⟩
  constructor
  ·rw [zKl];unfold zpq zzq;have h1:=zbdT (zgg n) a h.1 (λt ht=>⟨(hsub t ht).1,λf hf=>((hsub t ht).2 f hf).1⟩) (Int.toNat 0+a.length+(Int.ofNat a.length).toNat +Int.toNat 0+1) 0 (by omega)
   rw [show ((0:Nat):Int)=(0:Int) from rfl,Nat.zero_max] at h1
   rw [Wy.fin_bn,show Int.ofNat a.length=(a.length:Int) from rfl] at *
   rw [h1]; rfl
  ·rw [zS4];unfold zB1 zGK;have h1:=zbc0 (znn n) a h.1 (λt ht=>⟨(hsub t ht).1,λf hf=>((hsub t ht).2 f hf).2⟩) (a.length+Int.toNat 0+Int.toNat 0+1+zgt a) 0 (by omega)
   rw [show ((0:Nat):Int)=(0:Int) from rfl,Nat.zero_max] at h1
   rw [Wy.fin_bn,h1]; rfl
theorem zxJ (x y:Int):zeL x y=(true,zeb x y):=by
 unfold zeL zGQ zr3 zK7 zeb;by_cases h1:x<y
 ·simp [h1,Wy.fin_i,Wy.fin_k]
 ·by_cases h2:y<x <;>simp [h1,h2,Wy.fin_i,Wy.fin_k]
theorem zvm (x y:Int):ziR x y=(true,zeb x y):=by
 unfold ziR zC1 znm zGD zeb;by_cases h1:x<y
 ·simp [h1,Wy.fin_i,Wy.fin_k]
 ·by_cases h2:y<x <;>simp [h1,h2,Wy.fin_i,Wy.fin_k]
def zud:List Int->Int
 | []=>0
 | x::r=>if x=0 then zud r else x
theorem z6m (l:List Int) (hl:l.length<=1000000):∀ (n i:Nat),l.length<i+n->i<=l.length->∃ r,zGy n 0 l l.length i=(true,r)/\(r=.inl (zud (l.drop i))\/(r=.inr 0/\zud (l.drop i)=0))
 | 0,i,h,h2=>by omega
 | n+1,i,h,h2=>by
  show ∃ r,(zFL 0 l l.length i).ev (λx y=>zGy n x.1 x.2.1 x.2.2.1 x.2.2.2.1) (λr=>(true,r)) (false,.inl default)=(true,r)/\_
  unfold zFL;by_cases hi:i<l.length
  ·simp only [Wy.ev_i,Wy.ev_k,Wy.ev_h,Int.ofNat_eq_natCast,ztP,zez,decide_true,decide_false,Bool.and_self,Bool.true_and,Bool.and_true,cond_true,cond_false,Int.toNat_natCast,Bool.not_true,Bool.not_false,hi];obtain ⟨r,h1,h3⟩:=z6m l hl n (i+1) (by omega) (by omega)
   rw [zbh hi,zy (by omega),h1]
   generalize l.getD i default=x;by_cases hx:x=0
   ·have e:(x != 0)=false:=by simp [hx]
    simp only [e,cond_false,zud,hx,if_true];exact ⟨r,rfl,h3⟩
   ·have e:(x != 0)=true:=by simp [hx]
    simp only [e,cond_true,zud,hx,if_false];exact ⟨_,rfl,.inl rfl⟩
  ·simp only [Wy.ev_i,Wy.ev_k,Wy.ev_h,Int.ofNat_eq_natCast,ztP,zez,decide_true,decide_false,Bool.and_self,Bool.true_and,Bool.and_true,cond_true,cond_false,Int.toNat_natCast,Bool.not_true,Bool.not_false,hi,zcu hi];exact ⟨_,rfl,.inr ⟨rfl,rfl⟩⟩
theorem zvW (l:List Int) (hl:l.length<=1000000):zoN l=(true,zud l):=by
 unfold zoN zUH;obtain ⟨r,h1,h2⟩:=z6m l hl (Int.toNat 0+l.length+(Int.ofNat l.length).toNat +Int.toNat 0+1) 0 (by simp; omega) (by omega)
 rw [show ((0:Nat):Int)=(0:Int) from rfl] at h1
 rw [Wy.fin_bn,show Int.ofNat l.length=(l.length:Int) from rfl] at *
 rw [h1];rw [List.drop_zero] at h2;rcases h2 with rfl | ⟨rfl,h2⟩
 ·rfl
 ·rw [h2]; rfl
section
variable {α:Type}
def zwJ (c:α->α->Int):List α->List α->Int
 | [],[]=>0
 | [],_::_=> -1
 | _::_,[]=>1
 | x::a,y::b=>if c x y=0 then zwJ c a b else c x y
theorem zLe (e:α->TT) {c:α->α->Int}:∀ (a b:List α),(∀ x∈a,∀ y∈b,c x y=z8 (e x) (e y))->zwJ c a b=zbn (a.map e) (b.map e)
 | [],[],_=>by simp only [zwJ,List.map,zbn]
 | [],_::_,_=>by simp only [zwJ,List.map,zbn]
 | _::_,[],_=>by simp only [zwJ,List.map,zbn]
 | x::a,y::b,h=>by
  simp only [zwJ,List.map,zbn];rw [h x (by simp) y (by simp),zLe e a b λx hx y hy=>h x (by simp [hx]) y (by simp [hy])]
variable [Inhabited α]
def z2U (g:α->α->Bool×Int) (s1:List α) (s2:List α) (t11:List α) (t12:Int) (t13:Int):Wy (List α×List α×Unit×List α×Int×Int×Unit) Unit (Int⊕(List α×List α)):=.i (decide (t13<t12)) (.i (decide ((0:Int)<=t13)&&decide (t13<Int.ofNat t11.length)) (.i (decide (t13≥Int.ofNat s2.length)) (.k (.inl (1:Int))) (.i (decide ((0:Int)<=t13)&&decide (t13<Int.ofNat s2.length)) (.bn (g (t11.getD t13.toNat default) (s2.getD t13.toNat default)) λr0=>.i (r0 != (0:Int)) (.k (.inl (r0))) (.h (s1,s2,(),t11,t12,(IntKind.i64.wrap (t13+(1:Int))),()) ())) .d)) .d) (.k (.inr (s1,s2)))
def z64 (g:α->α->Bool×Int) (x:List α×List α×Unit×List α×Int×Int×Unit) (y:Unit):Wy (List α×List α×Unit×List α×Int×Int×Unit) Unit (Int⊕(List α×List α)):=z2U g x.1 x.2.1 x.2.2.2.1 x.2.2.2.2.1 x.2.2.2.2.2.1
def z65 (g:α->α->Bool×Int) (n:Nat) (s1:List α) (s2:List α) (t11:List α) (t12:Int) (t13:Int):Bool×(Int⊕(List α×List α)):=zx (z64 g) (.inl default) n (s1,s2,(),t11,t12,t13,()) ()
def CF (g:α->α->Bool×Int) (s1 s2:List α):Bool×Int:=(.bn (z65 g (s1.length+s2.length+s1.length+(Int.ofNat s1.length).toNat +Int.toNat (0:Int)+(1:Nat)) s1 s2 s1 (Int.ofNat s1.length) (0:Int)) λr2=>.i (isL r2) (.k (getL r2)) (.i (decide (Int.ofNat (getR r2).fst.length<Int.ofNat (getR r2).snd.length)) (.k (-1:Int)) (.k (0:Int))):Wy0 Int).fin default
theorem z57 (g:α->α->Bool×Int) (c:α->α->Int) (a b:List α) (ha:a.length<=1000000) (hg:∀ x∈a,∀ y∈b,g x y=(true,c x y)):∀ (n i:Nat),a.length<i+n->i<=a.length->i<=b.length->
  ∃ r,z65 g n a b a a.length i=(true,r)/\((r=.inl (zwJ c (a.drop i) (b.drop i)))\/(r=.inr (a,b)/\zwJ c (a.drop i) (b.drop i)=if a.length<b.length then -1 else 0))
 | 0,i,h,h2,h3=>by omega
 | n+1,i,h,h2,h3=>by
  show ∃ r,(z2U g a b a a.length i).ev (λx y=>z65 g n x.1 x.2.1 x.2.2.2.1 x.2.2.2.2.1 x.2.2.2.2.2.1) (λr=>(true,r)) (false,.inl default)=(true,r)/\_
  unfold z2U;by_cases hi:i<a.length
  ·by_cases hi':i<b.length
   ·have hg':¬ b.length<=i:=by omega
    simp only [Wy.ev_i,Wy.ev_k,Wy.ev_h,Wy.ev_bn,Wy.ev_d,Int.ofNat_eq_natCast,ztP,zez,decide_true,decide_false,Bool.and_self,Bool.true_and,Bool.and_true,cond_true,cond_false,Int.toNat_natCast,Bool.not_true,Bool.not_false,hi,hi',z8d,hg',hg _ (zm hi) _ (zm hi')];rw [zbh hi,zbh hi',zy (by omega)]
    simp only [zwJ];generalize c (a.getD i default) (b.getD i default)=z;by_cases hx:z=0
    ·have e:(z != 0)=false:=by simp [hx]
     simp only [e,cond_false,hx,if_true];exact z57 g c a b ha hg n (i+1) (by omega) (by omega) (by omega)
    ·have e:(z != 0)=true:=by simp [hx]
     simp only [e,cond_true,hx,if_false];exact ⟨_,rfl,.inl rfl⟩
   ·have hg':b.length<=i:=by omega
    simp only [Wy.ev_i,Wy.ev_k,Wy.ev_h,Wy.ev_bn,Wy.ev_d,Int.ofNat_eq_natCast,ztP,zez,decide_true,decide_false,Bool.and_self,Bool.true_and,Bool.and_true,cond_true,cond_false,Int.toNat_natCast,Bool.not_true,Bool.not_false,hi,z8d,hg'];refine ⟨_,rfl,.inl ?_⟩;rw [zbh hi,zcu hi']; rfl
  ·simp only [Wy.ev_i,Wy.ev_k,Wy.ev_h,Wy.ev_bn,Wy.ev_d,Int.ofNat_eq_natCast,ztP,zez,decide_true,decide_false,Bool.and_self,Bool.true_and,Bool.and_true,cond_true,cond_false,Int.toNat_natCast,Bool.not_true,Bool.not_false,hi];refine ⟨_,rfl,.inr ⟨rfl, ?_⟩⟩;rw [zcu hi];by_cases hi':i<b.length
   ·rw [zbh hi',if_pos (by omega)]; rfl
   ·rw [zcu hi',if_neg (by omega)]; rfl
theorem zbes (g:α->α->Bool×Int) (c:α->α->Int) (a b:List α) (ha:a.length<=1000000) (hg:∀ x∈a,∀ y∈b,g x y=(true,c x y)):CF g a b=(true,zwJ c a b):=by
 unfold CF;obtain ⟨r,h1,h2⟩:=z57 g c a b ha hg (a.length+b.length+a.length+(Int.ofNat a.length).toNat +Int.toNat 0+1) 0 (by simp; omega) (by omega) (by omega)
 rw [show ((0:Nat):Int)=(0:Int) from rfl] at h1
 rw [Wy.fin_bn,show Int.ofNat a.length=(a.length:Int) from rfl] at *
 rw [h1];simp only [List.drop_zero] at h2;rcases h2 with rfl | ⟨rfl,h2⟩
 ·rfl
 ·rw [h2];simp only [Wy.fin_i,Wy.fin_k,Int.ofNat_eq_natCast,ztP,zez,decide_true,decide_false,Bool.and_self,Bool.true_and,Bool.and_true,cond_true,cond_false,Int.toNat_natCast,Bool.not_true,Bool.not_false,isL,getR];by_cases h3:a.length<b.length <;>simp [h3]
end
theorem zOw {α:Type} [Inhabited α] (e:α->TT) (g:α->α->Bool×Int) (a b:List α) (ha:a.length<=1000000) (hg:∀ x∈a,∀ y∈b,g x y=(true,z8 (e x) (e y))):CF g a b=(true,zbn (a.map e) (b.map e)):=by
 rw [zbes g (λx y=>z8 (e x) (e y)) a b ha hg,zLe e a b λ_ _ _ _=>rfl]
theorem Fc.eta2 (x:Fc):(FO.mk (At.mk x.At.Kind x.At.Row x.At.Ag x.At.Func x.At.Items x.At.Op x.At.Bd) x.Exp:Fc)=x:=by rw [At.eta]
theorem z9F (g):zbP g=CF g:=rfl
theorem z7W (g):zbp g=CF g:=by
 have h:zbL g=z64 g:=by
  funext x y
  unfold zbL zd7 z64 z2U;rw [Fc.eta2,Fc.eta2]
 funext a b
 unfold zbp zed zd6;rw [h]; rfl
theorem zbb0 (g):zbi g=CF g:=rfl
theorem zbaj (g):zbF g=CF g:=rfl
theorem zAg (a b:Value):zjw a b=(true,z8 (trV a) (trV b)):=by
 unfold zjw zK4;have h:(strings_Compare a.Text b.Text).2=z8 (trB a.Text) (trB b.Text):=by rw [<- z6K]; rfl
 simp only [zxJ,zvm,Wy.fin_bn,cond_true,h];rw [zvW _ (by simp)]
 simp only [Wy.fin_k,cond_true,trV,z8,zbn,zud];rfl
theorem zOB:∀ n,
  (∀ d a b,zn d a->10*d<=n->zf4 n a b=(true,zbn (zdr a) (zdr b)))/\
  (∀ d a b,zn d a->10*d<=n+1->zbO n a b=(true,zbn (zdr a) (zdr b)))/\
  (∀ d x y,zfI (zn d) x.Fs->10*d+10<=n+2->ziM n x y=(true,z8 (zxD x) (zxD y)))/\
  (∀ d x y,zfI (zn d) x.Fs->10*d+10<=n+3->zg9 n x y=(true,zbn (zbr x.Fs) (zbr y.Fs)))/\
  (∀ d l l',zfI (zn d) l->10*d+10<=n+4->zbU n l l'=(true,zbn (zbr l) (zbr l')))/\
  (∀ d x y,zc7 (zn d) x.At->10*d+10<=n+5->zfT n x y=(true,z8 (zqB x) (zqB y)))/\
  (∀ d x y,zc7 (zn d) x->10*d+10<=n+6->zhh n x y=(true,z8 (zdZ x) (zdZ y)))/\
  (∀ d a b,a.length<=1000000->(∀ x∈a,zn d x)->10*d+10<=n+7->zbk n a b=(true,zbn (zvI a) (zvI b)))/\
  (∀ d a b,a.length<=1000000->(∀ x∈a,zn d x.Ann)->10*d+10<=n+7->zbD n a b=(true,zbn (zhC a) (zhC b)))/\
  (∀ d x y,zn d x.Ann->10*d+10<=n+8->ze7 n x y=(true,z8 (zba x) (zba y)))
 | 0=>by
  refine ⟨?_, ?_, ?_, ?_, ?_, ?_, ?_, ?_, ?_, ?_⟩
  ·intro d a b h hd; have:d=0:=by omega
   subst this; exact h.elim
  ·intro d a b h hd; have:d=0:=by omega
   subst this; exact h.elim
  all_goals (intros; omega)
 | n+1=>by
  obtain ⟨h1,h2,h3,h4,h5,h6,h7,h8,h9,h10⟩:=zOB n;refine ⟨?_, ?_, ?_, ?_, ?_, ?_, ?_, ?_, ?_, ?_⟩
  ·intro d a b h hd;rw [zKC];unfold zo4 zzH;rw [Wy.fin_bn,h2 d a b h (by omega)]; rfl
  ·intro d a b h hd;cases d with
   | zero=>exact h.elim
   | succ d=>
    rw [zic,z9F,zE8,zE8];exact zOw zxD _ a b h.1 λx hx y hy=>h3 d x y (h.2 x hx) (by omega)
  ·intro d x y h hd;rw [zFS];unfold zls zw3;rw [Wy.fin_bn,h4 d x y h (by omega)]
   simp only [cond_true,Wy.fin_bn,zvm];rw [zvW _ (by simp)]
   obtain ⟨c,l⟩:=x; obtain ⟨c',l'⟩:=y;simp only [cond_true,Wy.fin_k,zud,zxD,z8,zbn];rfl
  ·intro d x y h hd;rw [zDw];unfold zjZ zuK;rw [Wy.fin_bn,h5 d _ _ h (by omega)]; rfl
  ·intro d l l' h hd;rw [ziC,z7W,zvP,zvP];exact zOw zqB _ l l' h.1 λx hx y hy=>h6 d x y (h.2 x hx) (by omega)
  ·intro d x y h hd;rw [zBS];unfold zja ztl;rw [At.eta,At.eta,Wy.fin_bn,h7 d _ _ h (by omega)]
   simp only [cond_true,Wy.fin_bn,zxJ];rw [zvW _ (by simp)]
   obtain ⟨c,l⟩:=x; obtain ⟨c',l'⟩:=y;simp only [cond_true,Wy.fin_k,zud,zqB,z8,zbn];rfl
  ·intro d x y h hd;rw [zDy];unfold zj3 zuH;simp only [cond_true,Wy.fin_bn,zxJ,zAg,h8 d x.Ag y.Ag h.1.1 h.2.1 (by omega),h9 d x.Items y.Items h.1.2.1 (λw hw=>(h.2.2 w hw).2) (by omega)]
   rw [zvW _ (by simp)]
   obtain ⟨k,r,a,f,i,o,v⟩:=x; obtain ⟨k',r',a',f',i',o',v'⟩:=y;simp only [cond_true,Wy.fin_k,zud,zdZ,z8,zbn];rfl
  ·intro d a b h0 h hd;rw [zfn,zbb0,zCc,zCc];exact zOw (λx=>TT.l (zdr x)) _ a b h0 λx hx y hy=>by rw [h1 d x y (h x hx) (by omega)]; simp only [z8]
  ·intro d a b h0 h hd;rw [zgN,zbaj,zmc,zmc];exact zOw zba _ a b h0 λx hx y hy=>h10 d x y (h x hx) (by omega)
  ·intro d x y h hd;rw [zDK];unfold zjY zuP;simp only [cond_true,Wy.fin_bn,zAg,h1 d _ _ h (by omega)]
   rw [zvW _ (by simp)]
   obtain ⟨c,l⟩:=x; obtain ⟨c',l'⟩:=y;simp only [cond_true,Wy.fin_k,zud,zba,z8,zbn];rfl
theorem zNT {d:Nat} {a:yB} (h:zn d a) (hd:d<=100) (b:yB):zxT a b=(true,zbn (zdr a) (zdr b)):=(zOB 1000).1 d a b h (by omega)
theorem zvJ {d:Nat} {x:Term} (h:zfI (zn d) x.Fs) (hd:d<=99) (y:Term):zbX x y=(true,zbn (zbr x.Fs) (zbr y.Fs)):=(zOB 1000).2.2.2.1 d x y h (by omega)
theorem zv1 {d:Nat} {x:At} (h:zc7 (zn d) x) (hd:d<=99) (y:At):ziE x y=(true,z8 (zdZ x) (zdZ y)):=(zOB 1000).2.2.2.2.2.2.1 d x y h (by omega)
theorem zjx {d:Nat} {x:Wd} (h:zn d x.Ann) (hd:d<=99) (y:Wd):zY x y=(true,z8 (zba x) (zba y)):=(zOB 1000).2.2.2.2.2.2.2.2.2 d x y h (by omega)
theorem zwG {d:Nat} {a:yB} (h:zn d a) (hd:d<=100) (b:yB):zf7 a b=(true,decide (a=b)):=by
 unfold zf7 zEt;rw [Wy.fin_bn,zNT h hd];simp only [cond_true,Wy.fin_k];congr 1;by_cases e:a=b
 ·subst e; rw [zSU]; simp
 ·have:zbn (zdr a) (zdr b)≠0:=λh=>e (zEp _ _ (zH1 _ _ h))
  simp [e,this]
theorem zWv (s:ByteArray):∀ (n i:Nat) (r:List UInt8),s.size<=i+n->ByteArray.toList.loop s i r=r.reverse++s.data.toList.drop i
 | 0,i,r,h=>by
  rw [ByteArray.toList.loop,if_neg (by omega),List.drop_eq_nil_of_le (by rw [<- Lib.size_eq]; omega),List.append_nil]
 | n+1,i,r,h=>by
  rw [ByteArray.toList.loop];by_cases hi:i<s.size
  ·have hi':i<s.data.toList.length:=by rw [<- Lib.size_eq]; exact hi
   rw [if_pos hi,zWv s n (i+1) _ (by omega),List.drop_eq_getElem_cons hi',List.reverse_cons,List.append_assoc]
   congr 1
   have:s.get! i=s.data.toList[i]:=by
    have h':i<s.data.size:=hi;show s.data[i]! =s.data.toList[i];rw [getElem!_pos s.data i h']; rfl
   rw [this]; rfl
  ·rw [if_neg hi,List.drop_eq_nil_of_le (by rw [<- Lib.size_eq]; omega),List.append_nil]
theorem toList_eq (s:ByteArray):s.toList=s.data.toList:=by
 rw [ByteArray.toList,zWv s s.size 0 [] (by omega)]; rfl
theorem zEP {s t:ByteArray} (h:s.data.toList=t.data.toList):s=t:=by
 cases s; cases t;congr 1;exact Array.toList_inj.1 h
theorem z7P (s t:ByteArray):(s.toList==t.toList)=decide (s.data.toList=t.data.toList):=by
 rw [toList_eq,toList_eq];cases hb:(s.data.toList==t.data.toList) with
 | true=>rw [decide_eq_true (beq_iff_eq.1 hb)]
 | false=>rw [decide_eq_false (λh=>by rw [beq_iff_eq.2 h] at hb; cases hb)]
theorem zAJ (s t:ByteArray):(s.toList==t.toList)=decide (s=t):=by
 rw [z7P];by_cases h:s=t
 ·rw [decide_eq_true h,decide_eq_true (by rw [h])]
 ·rw [decide_eq_false h,decide_eq_false λe=>h (zEP e)]
theorem zry (z w:Int):(z != w)= !decide (z=w):=by by_cases h:z=w <;>simp [h]
theorem zRg:∀ a b:List UInt8,Op.bytesLess a b=decide (Lib.compareBytes a b<0)
 | [],[]=>by simp [Op.bytesLess,Lib.compareBytes]
 | _::_,[]=>by simp [Op.bytesLess,Lib.compareBytes]
 | [],_::_=>by simp [Op.bytesLess,Lib.compareBytes]
 | x::a,y::b=>by
  simp only [Op.bytesLess,Lib.compareBytes];by_cases p:x<y
  ·simp [p]
  ·by_cases q:y<x
   ·have hne:¬ x=y:=λe=>by subst e; exact p q
    simp [p,q,hne]
   ·have he:x=y:=UInt8.toNat_inj.1 (by rw [UInt8.lt_iff_toNat_lt] at p q; omega)
    subst he;simp [p,zRg a b]
theorem zAb (a b:Value):zjr a b=(true,z8 (trV a) (trV b)):=by
 unfold zjr zLk zr7 zUS;rw [zAJ,toList_eq,toList_eq,zRg,z6K];simp only [trV,z8,zbn,zeb];simp only [Wy.fin_i,Wy.fin_bn,Wy.fin_k,cond_true,zry];by_cases h1:a.Kind=b.Kind
 ·by_cases h2:a.Int=b.Int
  ·by_cases h3:a.Text=b.Text
   ·simp [h1,h2,h3,zAu]
   ·have h4:z8 (trB a.Text) (trB b.Text)≠0:=λe=>by
     have:=zGi _ _ (TT.l.inj (zr1 _ _ e));exact h3 (zEP this)
    have h5:=z4N (trB a.Text) (trB b.Text);simp only [trB,z8] at h4 h5;simp only [trB,z8];rcases h5 with h5 | h5 | h5
    ·simp [h1,h2,h3,h5]
    ·exact absurd h5 h4
    ·simp [h1,h2,h3,h5]
  ·by_cases h3:a.Int<b.Int
   ·simp [h1,h2,h3]
   ·simp [h1,h2,h3,show b.Int<a.Int by omega]
 ·by_cases h3:a.Kind<b.Kind
  ·simp [h1,h3]
  ·simp [h1,h3,show b.Kind<a.Kind by omega]
theorem znB (x y:Int):zcN x y=(true,zeb x y):=by
 unfold zcN zOF zeb;by_cases h1:x<y
 ·simp [h1,Wy.fin_i,Wy.fin_k]
 ·by_cases h2:y<x <;>simp [h1,h2,Wy.fin_i,Wy.fin_k]
theorem zSy (x y:RowID):zqs x y=(true,if zeb x.Table y.Table=0 then zeb x.Seq y.Seq else zeb x.Table y.Table):=by
 unfold zqs zEg;simp only [znB,Wy.fin_i,Wy.fin_bn,Wy.fin_k,cond_true,zry];by_cases h:zeb x.Table y.Table=0
 ·simp [h]
 ·simp [h]
section
variable {α:Type} [Inhabited α]
def z2Q (p q:α->α->Bool×Int) (a:List α) (b:List α) (i:Int):Wy (List α×List α×Int×Unit) Unit (Int⊕(List α×List α)):=.i (decide (i<Int.ofNat a.length)) (.i (decide (i<Int.ofNat b.length)) (.i (decide ((0:Int)<=i)&&decide (i<Int.ofNat a.length)) (.i (decide ((0:Int)<=i)&&decide (i<Int.ofNat b.length)) (.bn (p (a.getD i.toNat default) (b.getD i.toNat default)) λr1=>.i (r1 != (0:Int)) (.k (.inl (r1))) (.i (decide ((0:Int)<=i)&&decide (i<Int.ofNat a.length)) (.i (decide ((0:Int)<=i)&&decide (i<Int.ofNat b.length)) (.bn (q (a.getD i.toNat default) (b.getD i.toNat default)) λr0=>.i (r0 != (0:Int)) (.k (.inl (r0))) (.h (a,b,(IntKind.i64.wrap (i+(1:Int))),()) ())) .d) .d)) .d) .d) (.k (.inr (a,b)))) (.k (.inr (a,b)))
def z7a (p q:α->α->Bool×Int) (x:List α×List α×Int×Unit) (y:Unit):Wy (List α×List α×Int×Unit) Unit (Int⊕(List α×List α)):=z2Q p q x.1 x.2.1 x.2.2.1
def z7S (p q:α->α->Bool×Int) (n:Nat) (a:List α) (b:List α) (i:Int):Bool×(Int⊕(List α×List α)):=zx (z7a p q) (.inl default) n (a,b,i,()) ()
def RG (p q:α->α->Bool×Int) (a b:List α):Bool×Int:=(.bn (z7S p q (a.length+b.length+Int.toNat (0:Int)+(1:Nat)) a b (0:Int)) λr5=>.i (isL r5) (.k (getL r5)) (.bn (zcN (Int.ofNat (getR r5).fst.length) (Int.ofNat (getR r5).snd.length)) λr4=>.k r4):Wy0 Int).fin default
theorem z6B (p q:α->α->Bool×Int) (c1 c2:α->α->Int) (a b:List α) (ha:a.length<=1000000) (hp:∀ x∈a,∀ y∈b,p x y=(true,c1 x y)) (hq:∀ x∈a,∀ y∈b,q x y=(true,c2 x y)):∀ (n i:Nat),a.length<i+n->i<=a.length->i<=b.length->
  ∃ r,z7S p q n a b i=(true,r)/\((r=.inl (zwJ (λx y=>if c1 x y=0 then c2 x y else c1 x y) (a.drop i) (b.drop i)))\/(r=.inr (a,b)/\zwJ (λx y=>if c1 x y=0 then c2 x y else c1 x y) (a.drop i) (b.drop i)=zeb a.length b.length))
 | 0,i,h,h2,h3=>by omega
 | n+1,i,h,h2,h3=>by
  show ∃ r,(z2Q p q a b i).ev (λx y=>z7S p q n x.1 x.2.1 x.2.2.1) (λr=>(true,r)) (false,.inl default)=(true,r)/\_
  unfold z2Q;by_cases hi:i<a.length
  ·by_cases hi':i<b.length
   ·simp only [Wy.ev_i,Wy.ev_k,Wy.ev_h,Wy.ev_bn,Wy.ev_d,tT,hi,hi',hp _ (zm hi) _ (zm hi'),hq _ (zm hi) _ (zm hi')];rw [zbh hi,zbh hi',zy (by omega)]
    simp only [zwJ];generalize c1 (a.getD i default) (b.getD i default)=z1;generalize c2 (a.getD i default) (b.getD i default)=z2;by_cases hx:z1=0
    ·have e:(z1 != 0)=false:=by simp [hx]
     by_cases hx2:z2=0
     ·have e2:(z2 != 0)=false:=by simp [hx2]
      simp only [e,e2,cond_false,hx,hx2,if_true];exact z6B p q c1 c2 a b ha hp hq n (i+1) (by omega) (by omega) (by omega)
     ·have e2:(z2 != 0)=true:=by simp [hx2]
      simp only [e,e2,cond_false,cond_true,hx,hx2,if_true,if_false];exact ⟨_,rfl,.inl rfl⟩
    ·have e:(z1 != 0)=true:=by simp [hx]
     simp only [e,cond_true,hx,if_false];exact ⟨_,rfl,.inl rfl⟩
   ·simp only [Wy.ev_i,Wy.ev_k,Wy.ev_h,Wy.ev_bn,Wy.ev_d,tT,hi,hi'];refine ⟨_,rfl,.inr ⟨rfl, ?_⟩⟩;rw [zbh hi,zcu hi'];unfold zeb; rw [if_neg (by omega),if_pos (by omega)]; rfl
  ·simp only [Wy.ev_i,Wy.ev_k,Wy.ev_h,Wy.ev_bn,Wy.ev_d,tT,hi];refine ⟨_,rfl,.inr ⟨rfl, ?_⟩⟩;rw [zcu hi];by_cases hi':i<b.length
   ·rw [zbh hi']; unfold zeb; rw [if_pos (by omega)]; rfl
   ·rw [zcu hi']; unfold zeb; rw [if_neg (by omega),if_neg (by omega)]; rfl
theorem zbee (p q:α->α->Bool×Int) (c1 c2:α->α->Int) (a b:List α) (ha:a.length<=1000000) (hp:∀ x∈a,∀ y∈b,p x y=(true,c1 x y)) (hq:∀ x∈a,∀ y∈b,q x y=(true,c2 x y)):RG p q a b=(true,zwJ (λx y=>if c1 x y=0 then c2 x y else c1 x y) a b):=by
 unfold RG;obtain ⟨r,h1,h2⟩:=z6B p q c1 c2 a b ha hp hq (a.length+b.length+Int.toNat 0+1) 0 (by simp; omega) (by omega) (by omega)
 rw [show ((0:Nat):Int)=(0:Int) from rfl] at h1
 rw [Wy.fin_bn,h1];simp only [List.drop_zero] at h2;rcases h2 with rfl | ⟨rfl,h2⟩
 ·rfl
 ·rw [h2];simp only [Wy.fin_i,Wy.fin_k,Wy.fin_bn,znB,tT,isL,getR]
end
theorem z0u {α:Type} [Inhabited α] (e:α->TT) (p q:α->α->Bool×Int) (c1 c2:α->α->Int) (a b:List α) (ha:a.length<=1000000) (hp:∀ x∈a,∀ y∈b,p x y=(true,c1 x y)) (hq:∀ x∈a,∀ y∈b,q x y=(true,c2 x y))
  (hc:∀ x y,(if c1 x y=0 then c2 x y else c1 x y)=z8 (e x) (e y)):RG p q a b=(true,zbn (a.map e) (b.map e)):=by
 rw [zbee p q c1 c2 a b ha hp hq,zLe e a b λx _ y _=>hc x y]
theorem zbaA (g):zxa g=RG (λx y=>g x.Fs y.Fs) (λx y=>zcN x.Cf y.Cf):=rfl
theorem z7R (g):zjh g=RG (λx y=>g x.At y.At) (λx y=>zcN x.Exp y.Exp):=by
 have h:zj1 g=z7a (λx y=>g x.At y.At) (λx y=>zcN x.Exp y.Exp):=by
  funext x y
  unfold zj1 zw8 z7a z2Q;rw [At.eta,At.eta]
 funext a b
 unfold zjh zxz zxg;rw [h]; rfl
theorem z9K (g):zpd g=RG (λx y=>zjr x.Value y.Value) (λx y=>g x.Ann y.Ann):=rfl
theorem z1E (gI) (g:yB->yB->Bool×Int) (a b:At) (ha:a.Ag.length<=1000000) (hg:∀ x∈a.Ag,∀ y∈b.Ag,g x y=(true,zbn (zdr x) (zdr y))):∀ (n i:Nat),a.Ag.length<i+n->i<=a.Ag.length->i<=b.Ag.length->
  ∃ r,zs0 g gI n i a b=(true,r)/\((r=.inl (zwJ (λx y=>zbn (zdr x) (zdr y)) (a.Ag.drop i) (b.Ag.drop i))/\zwJ (λx y=>zbn (zdr x) (zdr y)) (a.Ag.drop i) (b.Ag.drop i)≠0)\/(r=.inr (a,b)/\zwJ (λx y=>zbn (zdr x) (zdr y)) (a.Ag.drop i) (b.Ag.drop i)=zeb a.Ag.length b.Ag.length))
 | 0,i,h,h2,h3=>by omega
 | n+1,i,h,h2,h3=>by
  show ∃ r,(zs3 g gI i a b).ev (λx y=>zs0 g gI n x.2.2.1 y.1 y.2.1) (λr=>(true,r)) (false,.inl default)=(true,r)/\_
  unfold zs3;by_cases hi:i<a.Ag.length
  ·by_cases hi':i<b.Ag.length
   ·simp only [Wy.ev_i,Wy.ev_k,Wy.ev_h,Wy.ev_bn,Wy.ev_d,tT,hi,hi',hg _ (zm hi) _ (zm hi')];rw [zbh hi,zbh hi',zy (by omega)]
    simp only [zwJ];generalize zbn (zdr (a.Ag.getD i default)) (zdr (b.Ag.getD i default))=z1;by_cases hx:z1=0
    ·have e:(z1 != 0)=false:=by simp [hx]
     simp only [e,cond_false,hx,if_true];exact z1E gI g a b ha hg n (i+1) (by omega) (by omega) (by omega)
    ·have e:(z1 != 0)=true:=by simp [hx]
     simp only [e,cond_true,hx,if_false];exact ⟨_,rfl,.inl ⟨rfl,hx⟩⟩
   ·simp only [Wy.ev_i,Wy.ev_k,Wy.ev_h,Wy.ev_bn,Wy.ev_d,tT,hi,hi'];refine ⟨_,rfl,.inr ⟨rfl, ?_⟩⟩;rw [zbh hi,zcu hi'];unfold zeb; rw [if_neg (by omega),if_pos (by omega)]; rfl
  ·simp only [Wy.ev_i,Wy.ev_k,Wy.ev_h,Wy.ev_bn,Wy.ev_d,tT,hi];refine ⟨_,rfl,.inr ⟨rfl, ?_⟩⟩;rw [zcu hi];by_cases hi':i<b.Ag.length
   ·rw [zbh hi']; unfold zeb; rw [if_pos (by omega)]; rfl
   ·rw [zcu hi']; unfold zeb; rw [if_neg (by omega),if_neg (by omega)]; rfl
theorem zbbV (gI) (g:yB->yB->Bool×Int) (x y:At) (ha:x.Ag.length<=1000000) (hg:∀ a∈x.Ag,∀ b∈y.Ag,g a b=(true,zbn (zdr a) (zdr b)))
  (hI:gI x.Items y.Items=(true,zbn (zhC x.Items) (zhC y.Items))):zlx g gI x y=(true,z8 (zdZ x) (zdZ y)):=by
 unfold zlx zA1;rw [At.eta,At.eta];obtain ⟨r,h1,h2⟩:=z1E gI g x y ha hg (Int.toNat 0+x.Ag.length+x.Items.length+y.Ag.length+y.Items.length+1) 0 (by omega) (by omega) (by omega)
 rw [show ((0:Nat):Int)=(0:Int) from rfl] at h1
 simp only [List.drop_zero] at h2;rw [zLe (λa=>TT.l (zdr a)) x.Ag y.Ag (λa _ b _=>by simp only [z8]), <- zCc, <- zCc] at h2
 simp only [znB,zSy,Wy.fin_bn,Wy.fin_i,Wy.fin_k,cond_true,h1];obtain ⟨k,r0,a,f,i,o,v⟩:=x; obtain ⟨k',r',a',f',i',o',v'⟩:=y;simp only [zdZ,z8,zbn,zry] at *;by_cases e1:zeb k k'=0
 rotate_left
 ·simp [e1]
 by_cases e2:zeb r0.Table r'.Table=0
 rotate_left
 ·simp [e1,e2]
 by_cases e3:zeb r0.Seq r'.Seq=0
 rotate_left
 ·simp [e1,e2,e3]
 rcases h2 with ⟨rfl,h2⟩ | ⟨rfl,h2⟩
 ·simp [e1,e2,e3,h2,isL,getL]
 simp only [e1,e2,e3,h2,isL,getR,tT,hI,if_true];by_cases e4:zeb (a.length:Int) (a'.length:Int)=0
 rotate_left
 ·simp [e4]
 by_cases e5:zeb f f'=0
 rotate_left
 ·simp [e4,e5]
 by_cases e6:zbn (zhC i) (zhC i')=0
 rotate_left
 ·simp [e4,e5,e6]
 by_cases e7:zeb o o'=0
 rotate_left
 ·simp [e4,e5,e6,e7]
 simp [e4,e5,e6,e7,zAb]
theorem zId:∀ n,
  (∀ d a b,zn d a->10*d<=n->znC n a b=(true,zbn (zdr a) (zdr b)))/\
  (∀ d l l',zfI (zn d) l->10*d+10<=n+1->zjf n l l'=(true,zbn (zbr l) (zbr l')))/\
  (∀ d x y,zc7 (zn d) x->10*d+10<=n+2->zlC n x y=(true,z8 (zdZ x) (zdZ y)))/\
  (∀ d a b,a.length<=1000000->(∀ x∈a,zn d x.Ann)->10*d+10<=n+3->zkK n a b=(true,zbn (zhC a) (zhC b)))
 | 0=>by
  refine ⟨?_, ?_, ?_, ?_⟩
  ·intro d a b h hd; have:d=0:=by omega
   subst this; exact h.elim
  all_goals (intros; omega)
 | n+1=>by
  obtain ⟨h1,h2,h3,h4⟩:=zId n;refine ⟨?_, ?_, ?_, ?_⟩
  ·intro d a b h hd;cases d with
   | zero=>exact h.elim
   | succ d=>
    rw [zTL,zbaA,zE8,zE8]
    exact z0u zxD _ _ (λx y=>zbn (zbr x.Fs) (zbr y.Fs)) (λx y=>zeb x.Cf y.Cf) a b h.1 (λx hx y hy=>h2 d _ _ (h.2 x hx) (by omega)) (λx _ y _=>znB _ _) λx y=>by
     obtain ⟨c,l⟩:=x; obtain ⟨c',l'⟩:=y;simp only [zxD,z8,zbn];by_cases e:zeb c c'=0 <;>simp [e]
  ·intro d l l' h hd;rw [zHU,z7R,zvP,zvP]
   exact z0u zqB _ _ (λx y=>z8 (zdZ x.At) (zdZ y.At)) (λx y=>zeb x.Exp y.Exp) l l' h.1 (λx hx y hy=>h3 d _ _ (h.2 x hx) (by omega)) (λx _ y _=>znB _ _) λx y=>by
    obtain ⟨c,l⟩:=x; obtain ⟨c',l'⟩:=y;simp only [zqB,z8,zbn];by_cases e:zeb l l'=0 <;>simp [e]
  ·intro d x y h hd;rw [zMM];exact zbbV _ _ x y h.1.1 (λa ha b _=>h1 d a b (h.2.1 a ha) (by omega)) (h4 d _ _ h.1.2.1 (λw hw=>(h.2.2 w hw).2) (by omega))
  ·intro d a b h0 h hd;rw [zKE,z9K,zmc,zmc]
   exact z0u zba _ _ (λx y=>z8 (trV x.Value) (trV y.Value)) (λx y=>zbn (zdr x.Ann) (zdr y.Ann)) a b h0 (λx _ y _=>zAb _ _) (λx hx y _=>h1 d _ _ (h x hx) (by omega)) λx y=>by
    obtain ⟨c,l⟩:=x; obtain ⟨c',l'⟩:=y;simp only [zba,z8,zbn];by_cases e:zbn (zdr l) (zdr l')=0 <;>simp [e]
theorem zWR {d:Nat} {a:yB} (h:zn d a) (hd:d<=100) (b:yB):zGk a b=(true,zbn (zdr a) (zdr b)):=(zId 1000).1 d a b h (by omega)
theorem zrO {d:Nat} {l:yC} (h:zfI (zn d) l) (hd:d<=99) (l':yC):zkS l l'=(true,zbn (zbr l) (zbr l')):=(zId 1000).2.1 d l l' h (by omega)
theorem zva {d:Nat} {x:At} (h:zc7 (zn d) x) (hd:d<=99) (y:At):zop x y=(true,z8 (zdZ x) (zdZ y)):=(zId 1000).2.2.1 d x y h (by omega)
theorem zAt {d:Nat} {a:yD} (h0:a.length<=1000000) (h:∀ x∈a,zn d x.Ann) (hd:d<=99) (b:yD):zxO a b=(true,zbn (zhC a) (zhC b)):=(zId 1000).2.2.2 d a b h0 h (by omega)
theorem zGd {d:Nat} {a:yB} (h:zn d a) (hd:d<=100) (b:yB):zoQ a b=(true,decide (a=b)):=by
 unfold zoQ zUq;rw [Wy.fin_bn,zWR h hd];simp only [cond_true,Wy.fin_k];congr 1;by_cases e:a=b
 ·subst e; rw [zSU]; simp
 ·have:zbn (zdr a) (zdr b)≠0:=λh=>e (zEp _ _ (zH1 _ _ h))
  simp [e,this]
abbrev zRa:=yB×Int×Int×Unit
abbrev z11:=Bool⊕(yB×Int)
abbrev zRp:=yB×Int×Unit
def zvQ (a:yB) (i:Int) (k:Int):Wy zRa Unit z11:=.i (decide (0<=i)&&decide (i<Int.ofNat a.length)) (.i (decide (k<Int.ofNat (a.getD i.toNat default).Fs.length)) (.i (decide (0<=i)&&decide (i<Int.ofNat a.length)) (.i (decide (0<=k)&&decide (k<Int.ofNat (a.getD i.toNat default).Fs.length)) (.i (decide (((a.getD i.toNat default).Fs.getD k.toNat default).Exp>64)) (.k (.inl false)) (.i (decide (0<=i)&&decide (i<Int.ofNat a.length)) (.i (decide (0<=k)&&decide (k<Int.ofNat (a.getD i.toNat default).Fs.length)) (.i (decide (Int.ofNat ((a.getD i.toNat default).Fs.getD k.toNat default).At.Items.length>1024)) (.k (.inl false)) (.h (a,i,(IntKind.i64.wrap (k+1)),()) ())) .d) .d)) .d) .d) (.k (.inr (a,i)))) .d
def zQU (x:zRa) (y:Unit):=zvQ x.1 x.2.1 x.2.2.1
def zQ2 (n:Nat) (a:yB) (i:Int) (k:Int):=zx (zQU) (.inl default) n (a,i,k,()) ()
def zwg (a:yB) (i:Int):Wy zRp Unit (Bool⊕Unit):=.i (decide (i<Int.ofNat a.length)) (.i (decide (0<=i)&&decide (i<Int.ofNat a.length)) (.i (decide (Int.ofNat (a.getD i.toNat default).Fs.length>64)) (.k (.inl false)) (.bn (zQ2 ((a.length+i.toNat +Int.toNat 0+1)+zgt a) a i 0) λr0=>.i (isL r0) (.k (.inl (getL r0))) (.h ((getR r0).1,(IntKind.i64.wrap ((getR r0).2+1)),()) ()))) .d) (.k (.inr ()))
def zRc (x:zRp) (y:Unit):=zwg x.1 x.2.1
def zRl (n:Nat) (a:yB) (i:Int):=zx (zRc) (.inl default) n (a,i,()) ()
def zUJ (a:yB):Wy0 (Bool):=.i (decide (Int.ofNat a.length>512)) (.k false) (.bn (zQX a) λr4=>.i (decide (r4>8)) (.k false) (.bn (zZv a) λr3=>.i (decide (r3>4096)) (.k false) (.bn (zRl ((a.length+Int.toNat 0+1)+zgt a) a 0) λr2=>.i (isL r2) (.k (getL r2)) (.k true))))
def zHC (a:yB):=(zUJ a).fin default
def zRk (v:Value):Wy0 (Bool):=.i (v.Kind==0) (.k (v.Text.toList==(ByteArray.mk #[]).toList)) (.i (v.Kind==1) (.i (v.Int==0) (.k (decide (Int.ofNat v.Text.size<=255))) (.k false)) (.i (v.Kind==2) (.i (v.Text.toList==(ByteArray.mk #[]).toList) (.i (v.Int==0) (.k true) (.k (v.Int==1))) (.k false)) (.k false)))
def zD0 (v:Value):=(zRk v).fin default
abbrev zM9:=Int×yD×Unit×Int×Unit
def ztY (fn:Int) (items:yD) (i:Int) (bound:Value):Wy zM9 (Value×Unit) (Bool⊕Unit):=.i (decide (i<Int.ofNat items.length)) (.i (decide (0<=i)&&decide (i<Int.ofNat items.length)) (.bn (zD0 (items.getD i.toNat default).Value) λr0=>.i (!r0) (.k (.inl false)) (.i ((items.getD i.toNat default).Value.Kind != bound.Kind) (.k (.inl false)) (.i (fn==0) (.i ((items.getD i.toNat default).Value.Int != 1) (.k (.inl false)) (.h (fn,items,(),(IntKind.i64.wrap (i+1)),()) (bound,()))) (.h (fn,items,(),(IntKind.i64.wrap (i+1)),()) (bound,()))))) .d) (.k (.inr ()))
def zNf (x:zM9) (y:Value×Unit):=ztY x.1 x.2.1 x.2.2.2.1 y.1
def zDe (n:Nat) (fn:Int) (items:yD) (i:Int) (bound:Value):=zx (zNf) (.inl default) n (fn,items,(),i,()) (bound,())
def zRq (fn:Int) (items:yD) (op:Int) (bound:Value):Wy0 (Bool):=.i (decide (fn<0)) (.k false) (.i (decide (fn>3)) (.k false) (.i (decide (op<5)) (.k false) (.i (decide (op>10)) (.k false) (.bn (zD0 bound) λr4=>.i (!r4) (.k false) (.i (decide (fn<=1)) (.i (bound.Kind != 0) (.k false) (.bn (zDe (fn.toNat +items.length+Int.toNat 0+1) fn items 0 bound) λr2=>.i (isL r2) (.k (getL r2)) (.k true))) (.bn (zDe (fn.toNat +items.length+Int.toNat 0+1) fn items 0 bound) λr3=>.i (isL r3) (.k (getL r3)) (.k true)))))))
def zD6 (fn:Int) (items:yD) (op:Int) (bound:Value):=(zRq fn items op bound).fin default
def zRr (x_:At):Wy0 (Bool):=.i (x_.Func==0) (.i (Int.ofNat x_.Items.length==0) (.i (x_.Op==0) (.k (x_.Bd.Kind==0&&(x_.Bd.Int==0&&(x_.Bd.Text.toList==(ByteArray.mk #[]).toList&&true)))) (.k false)) (.k false)) (.k false)
def zwx (x_:At):=(zRr x_).fin default
def zOi (a:yB):Wy0 (Bool):=.i (Int.ofNat a.length==1) (.i (decide ((0:Int)<=(0:Int))&&decide (0<Int.ofNat a.length)) (.i ((a.getD (Int.toNat 0) default).Cf==1) (.i (decide ((0:Int)<=(0:Int))&&decide (0<Int.ofNat a.length)) (.i (Int.ofNat (a.getD (Int.toNat 0) default).Fs.length==1) (.i (decide ((0:Int)<=(0:Int))&&decide (0<Int.ofNat a.length)) (.i (decide ((0:Int)<=(0:Int))&&decide (0<Int.ofNat (a.getD (Int.toNat 0) default).Fs.length)) (.i (decide (((a.getD (Int.toNat 0) default).Fs.getD (Int.toNat 0) default).At.Kind≥2)) (.i (decide ((0:Int)<=(0:Int))&&decide (0<Int.ofNat a.length)) (.i (decide ((0:Int)<=(0:Int))&&decide (0<Int.ofNat (a.getD (Int.toNat 0) default).Fs.length)) (.k (((a.getD (Int.toNat 0) default).Fs.getD (Int.toNat 0) default).Exp==1)) .d) .d) (.k false)) .d) .d) (.k false)) .d) (.k false)) .d) (.k false)
def zye (a:yB):=(zOi a).fin default
abbrev zGI:=yB×Int×Unit
def zof (a:yB) (i:Int):Wy zGI Unit (Bool⊕Unit):=.i (decide (i<Int.ofNat a.length)) (.i (decide (0<=i)&&decide (i<Int.ofNat a.length)) (.i (Int.ofNat (a.getD i.toNat default).Fs.length==0) (.k (.inl true)) (.h (a,(IntKind.i64.wrap (i+1)),()) ())) .d) (.k (.inr ()))
def zGO (x:zGI) (y:Unit):=zof x.1 x.2.1
def zGH (n:Nat) (a:yB) (i:Int):=zx (zGO) (.inl default) n (a,i,()) ()
def zJh (a:yB):Wy0 (Bool):=.bn (zGH (a.length+Int.toNat 0+1) a 0) λr0=>.i (isL r0) (.k (getL r0)) (.k false)
def zl5 (a:yB):=(zJh a).fin default
end Go.Proofs.YtoknknbmfmddbaaGreatDoor
end
