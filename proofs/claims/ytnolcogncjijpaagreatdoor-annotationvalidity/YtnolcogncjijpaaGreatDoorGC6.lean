/- Texts of this claim, joined (the program, its functions in plain words, and what they compute). -/
import Derived.Test.YtnolcogncjijpaaGreatDoorGC5
set_option autoImplicit false
set_option linter.unusedVariables false
set_option linter.unusedSectionVars false
set_option linter.unusedSimpArgs false
set_option maxRecDepth 1000000
set_option maxHeartbeats 0
/- What the laws examine: annotations of small weight. -/
noncomputable section
namespace Go.Proofs.YtnolcogncjijpaaGreatDoor
open Go Go.Ab
theorem zAr:∀ {l:yC},zoM l->∀ x∈l,zty x
 | [],_,x,hx=>by cases hx
 | y::r,h,x,hx=>by
  unfold zoM at h;rcases qd.1 hx with rfl | hx
  ·exact h.1
  ·exact zAr h.2 x hx
theorem zES:∀ {l:yB},zjY l->∀ x∈l,zy4 x
 | [],_,x,hx=>by cases hx
 | y::r,h,x,hx=>by
  unfold zjY at h;rcases qd.1 hx with rfl | hx
  ·exact h.1
  ·exact zES h.2 x hx
theorem zoC:∀ {l:yA},zw6 l->∀ x∈l,zjY x/\x.length<=zby
 | [],_,x,hx=>by cases hx
 | y::r,h,x,hx=>by
  unfold zw6 at h;rcases qd.1 hx with rfl | hx
  ·exact h.1
  ·exact zoC h.2 x hx
theorem zyS:∀ {l:yD},ztN l->∀ x∈l,zUS x.Value/\zjY x.Ann/\x.Ann.length<=zby
 | [],_,x,hx=>by cases hx
 | y::r,h,x,hx=>by
  unfold ztN at h;rcases qd.1 hx with rfl | hx
  ·have:=h.1; unfold zHS at this; exact ⟨this.1,this.2.1,this.2.2⟩
  ·exact zyS h.2 x hx
theorem zJX {t:Term} (h:zy4 t):wf2 t.Cf/\zoM t.Fs/\t.Fs.length<=zby:=by
 unfold zy4 at h; exact ⟨h.1,h.2.1,h.2.2⟩
theorem zDv {t:Fc} (h:zty t):ztC t.At/\wf3 t.Exp:=by
 unfold zty at h; exact h
theorem zIP {x:At} (h:ztC x):(zw6 x.Ag/\x.Ag.length<=zby)/\(ztN x.Items/\x.Items.length<=zby)/\zUS x.Bd/\wf3 x.Kind/\zWI x.Row/\wf3 x.Func/\wf3 x.Op:=by
 obtain ⟨k,r,a,f,i,o,b⟩:=x; unfold ztC at h; exact ⟨h.2.2.1,h.2.2.2.2.1,h.2.2.2.2.2.2,h.1,h.2.1,h.2.2.2.1,h.2.2.2.2.2.1⟩
theorem zqn {z:Int} (h0: -4611686018427387904<=z) (h:z<4611686018427387904):IntKind.i64.wrap z=z:=zNB (by omega) (by omega)
mutual
def zqb:At->Nat
 | ⟨_,_,a,_,i,_,b⟩=>i.length+a.length+b.Text.size+zeU a+zcX i
def zbS:yC->Nat
 | []=>0
 | ⟨x,_⟩::r=>zqb x+zbS r
def zbM:yB->Nat
 | []=>0
 | ⟨_,fs⟩::r=>1+fs.length+zbS fs+zbM r
def zeU:yA->Nat
 | []=>0
 | a::r=>zbM a+zeU r
def zcX:yD->Nat
 | []=>0
 | ⟨v,a⟩::r=>v.Text.size+zbM a+zcX r
end
theorem zBS (x:At):zqb x=x.Items.length+x.Ag.length+x.Bd.Text.size+zeU x.Ag+zcX x.Items:=by cases x; rw [zqb]
theorem zQw (f:Fc) (r:yC):zbS (f::r)=zqb f.At+zbS r:=by cases f; rw [zbS]
theorem zVK (t:Term) (r:yB):zbM (t::r)=1+t.Fs.length+zbS t.Fs+zbM r:=by cases t; rw [zbM]
theorem zUu (a:yB) (r:yA):zeU (a::r)=zbM a+zeU r:=by rw [zeU]
theorem zTn (w:Wd) (r:yD):zcX (w::r)=w.Value.Text.size+zbM w.Ann+zcX r:=by cases w; rw [zcX]
theorem zVL:zeU []=0:=by rw [zeU]
theorem zVc:zcX []=0:=by rw [zcX]
theorem zSA:zbS []=0:=by rw [zbS]
theorem zWi:zbM []=0:=by rw [zbM]
section
variable (g:yB->Int->Int->Bool×Int) (a:yB) (limit d:Nat) (hl:limit<=1000) (hd:d<=100) (B:Nat) (hB:B<=1152921504606846976) (P:yB->Prop)
include hl hd hB
theorem w14 (x:At) (i k:Int) (hlen:x.Ag.length<=zby) (hg:∀ y∈x.Ag,∀ l:Nat,l<=1000->∃ w:Nat,g y l d=(true,(w:Int))/\w<=B/\(w<=l->P y/\zbM y<=w)):
  ∀ (fuel j n:Nat),x.Ag.length<j+fuel->j<=x.Ag.length->n<=2305843009213693952->∃ n':Nat,ztJ g fuel a limit (d+1:Nat) n i k j x=(true,(a,(limit:Int),((d+1:Nat):Int),(n':Int),i,k,x))/\n<=n'/\n'<=max n (limit+B)/\(n'<=limit->(∀ y∈x.Ag.drop j,P y)/\n+zeU (x.Ag.drop j)<=n')
 | 0,j,n,h1,h2,h3=>by omega
 | fuel+1,j,n,h1,h2,h3=>by
  show ∃ n':Nat,(ztd g a limit (d+1:Nat) n i k j x).ev (λx y=>ztJ g fuel x.1 x.2.1 x.2.2.1 x.2.2.2.1 x.2.2.2.2.1 x.2.2.2.2.2.1 x.2.2.2.2.2.2.2.1 y.1) (λr=>(true,r)) (false,default)=_/\_
  unfold ztd;have hml:zby=140737488351232:=rfl;by_cases hj:j<x.Ag.length
  ·by_cases hn:n<=limit
   ·have e1:IntKind.i64.wrap ((limit:Int) - (n:Int))=((limit - n:Nat):Int):=by rw [zqn (by omega) (by omega)]; omega
    obtain ⟨w,hw,hwB,hwP⟩:=hg _ (zX hj) (limit - n) (by omega)
    have ed:IntKind.i64.wrap (((d+1:Nat):Int) - 1)=(d:Int):=by rw [zqn (by omega) (by omega)]; omega
    simp only [Wy.ev_i,Wy.ev_k,Wy.ev_h,Wy.ev_bn,Wy.ev_d,tT,hj,zr3,hn,e1,ed,hw];have e3:IntKind.i64.wrap ((n:Int)+(w:Int))=((n+w:Nat):Int):=by rw [zqn (by omega) (by omega)]; omega
    rw [e3,zbi (by omega)]
    obtain ⟨n',h4,h5,h6,h7⟩:=w14 x i k hlen hg fuel (j+1) (n+w) (by omega) (by omega) (by omega)
    refine ⟨n',h4,by omega,by omega,λhn'=> ?_⟩
    obtain ⟨h8,h9⟩:=h7 hn';obtain ⟨p1,p2⟩:=hwP (by omega)
    rw [zbb hj,zUu];refine ⟨λy hy=> ?_,by omega⟩
    rcases qd.1 hy with rfl | hy
    ·exact p1
    ·exact h8 y hy
   ·simp only [Wy.ev_i,Wy.ev_k,Wy.ev_h,Wy.ev_bn,Wy.ev_d,tT,hj,zr3,hn];exact ⟨n,rfl,Nat.le_refl _,by omega,λh=>absurd h hn⟩
  ·simp only [Wy.ev_i,Wy.ev_k,Wy.ev_h,Wy.ev_bn,Wy.ev_d,tT,hj];exact ⟨n,rfl,Nat.le_refl _,by omega,λ_=>by rw [zdA hj,zVL]; exact ⟨λy hy=>(by cases hy),Nat.le_refl _⟩⟩
theorem w18 (x:At) (i k:Int) (hlen:x.Items.length<=zby) (hg:∀ y∈x.Items,y.Value.Text.size<=zby/\∀ l:Nat,l<=1000->∃ w:Nat,g y.Ann l d=(true,(w:Int))/\w<=B/\(w<=l->P y.Ann/\zbM y.Ann<=w)):
  ∀ (fuel j n:Nat),x.Items.length<j+fuel->j<=x.Items.length->n<=2305843009213693952->∃ n':Nat,ztv g fuel a limit (d+1:Nat) n i k j x=(true,(a,(limit:Int),((d+1:Nat):Int),(n':Int),i,k))/\n<=n'/\n'<=max n (limit+zby+B)/\(n'<=limit->(∀ y∈x.Items.drop j,y.Value.Text.size<=1000/\P y.Ann)/\n+zcX (x.Items.drop j)<=n')
 | 0,j,n,h1,h2,h3=>by omega
 | fuel+1,j,n,h1,h2,h3=>by
  show ∃ n':Nat,(ztE g a limit (d+1:Nat) n i k j x).ev (λx y=>ztv g fuel x.1 x.2.1 x.2.2.1 x.2.2.2.1 x.2.2.2.2.1 x.2.2.2.2.2.1 x.2.2.2.2.2.2.2.1 y.1) (λr=>(true,r)) (false,default)=_/\_
  unfold ztE;have hml:zby=140737488351232:=rfl;by_cases hj:j<x.Items.length
  ·by_cases hn:n<=limit
   ·have e1:IntKind.i64.wrap ((limit:Int) - (n:Int))=((limit - n:Nat):Int):=by rw [zqn (by omega) (by omega)]; omega
    obtain ⟨ht,hgy⟩:=hg _ (zX hj);obtain ⟨w,hw,hwB,hwP⟩:=hgy (limit - n) (by omega)
    have ed:IntKind.i64.wrap (((d+1:Nat):Int) - 1)=(d:Int):=by rw [zqn (by omega) (by omega)]; omega
    simp only [Wy.ev_i,Wy.ev_k,Wy.ev_h,Wy.ev_bn,Wy.ev_d,tT,hj,zr3,hn,e1,ed,hw];generalize hsz:(x.Items.getD j default).Value.Text.size=sz at *;have e3:IntKind.i64.wrap (IntKind.i64.wrap ((n:Int)+(sz:Int))+(w:Int))=((n+sz+w:Nat):Int):=by rw [zqn (z:=(n:Int)+(sz:Int)) (by omega) (by omega),zqn (by omega) (by omega)]; omega
    rw [e3,zbi (by omega)]
    obtain ⟨n',h4,h5,h6,h7⟩:=w18 x i k hlen hg fuel (j+1) (n+sz+w) (by omega) (by omega) (by omega)
    refine ⟨n',h4,by omega,by omega,λhn'=> ?_⟩
    obtain ⟨h8,h9⟩:=h7 hn';obtain ⟨p1,p2⟩:=hwP (by omega)
    rw [zbb hj,zTn];refine ⟨λy hy=> ?_,by omega⟩
    rcases qd.1 hy with rfl | hy
    ·exact ⟨by omega,p1⟩
    ·exact h8 y hy
   ·simp only [Wy.ev_i,Wy.ev_k,Wy.ev_h,Wy.ev_bn,Wy.ev_d,tT,hj,zr3,hn];exact ⟨n,rfl,Nat.le_refl _,by omega,λh=>absurd h hn⟩
  ·simp only [Wy.ev_i,Wy.ev_k,Wy.ev_h,Wy.ev_bn,Wy.ev_d,tT,hj];exact ⟨n,rfl,Nat.le_refl _,by omega,λ_=>by rw [zdA hj,zVc]; exact ⟨λy hy=>(by cases hy),Nat.le_refl _⟩⟩
theorem w9 (i:Nat) (hi:i<a.length) (hla:(a.getD i default).Fs.length<=zby) (hg:∀ f∈(a.getD i default).Fs,f.At.Ag.length<=zby/\f.At.Items.length<=zby/\f.At.Bd.Text.size<=zby/\(∀ y∈f.At.Ag,∀ l:Nat,l<=1000->∃ w:Nat,g y l d=(true,(w:Int))/\w<=B/\(w<=l->P y/\zbM y<=w))/\
   ∀ y∈f.At.Items,y.Value.Text.size<=zby/\∀ l:Nat,l<=1000->∃ w:Nat,g y.Ann l d=(true,(w:Int))/\w<=B/\(w<=l->P y.Ann/\zbM y.Ann<=w)):
  ∀ (fuel k n:Nat),(a.getD i default).Fs.length<k+fuel->k<=(a.getD i default).Fs.length->n<=2305843009213693952->∃ n':Nat,zuo g fuel a limit (d+1:Nat) n i k=(true,(a,(limit:Int),((d+1:Nat):Int),(n':Int),(i:Int)))/\n<=n'/\n'<=max n (limit+4*zby+B)/\
   (n'<=limit->(∀ f∈(a.getD i default).Fs.drop k,(f.At.Ag.length<=1000/\f.At.Items.length<=1000/\f.At.Bd.Text.size<=1000)/\(∀ y∈f.At.Ag,P y)/\∀ y∈f.At.Items,y.Value.Text.size<=1000/\P y.Ann)/\n+zbS ((a.getD i default).Fs.drop k)<=n')
 | 0,k,n,h1,h2,h3=>by omega
 | fuel+1,k,n,h1,h2,h3=>by
  show ∃ n':Nat,(zuq g a limit (d+1:Nat) n i k).ev (λx y=>zuo g fuel x.1 x.2.1 x.2.2.1 x.2.2.2.1 x.2.2.2.2.1 x.2.2.2.2.2.1) (λr=>(true,r)) (false,default)=_/\_
  unfold zuq;have hml:zby=140737488351232:=rfl;by_cases hk:k<(a.getD i default).Fs.length
  ·by_cases hn:n<=limit
   ·simp only [Wy.ev_i,Wy.ev_k,Wy.ev_h,Wy.ev_bn,Wy.ev_d,tT,hi,hk,zr3,hn,At.eta];obtain ⟨ha1,ha2,ha3,hgA,hgI⟩:=hg _ (zX hk);generalize hf:((a.getD i default).Fs.getD k default)=f at *
    have e0:IntKind.i64.wrap (IntKind.i64.wrap (IntKind.i64.wrap ((n:Int)+(f.At.Items.length:Int))+(f.At.Ag.length:Int))+(f.At.Bd.Text.size:Int))=((n+f.At.Items.length+f.At.Ag.length+f.At.Bd.Text.size:Nat):Int):=by
     rw [zqn (z:=(n:Int)+(f.At.Items.length:Int)) (by omega) (by omega),zqn (z:=(n:Int)+(f.At.Items.length:Int)+(f.At.Ag.length:Int)) (by omega) (by omega),zqn (by omega) (by omega)]; omega
    rw [e0];obtain ⟨n1,q1,q2,q3,q4⟩:=w14 g a limit d hl hd B hB P f.At i k ha1 hgA (a.length+limit+(d+1)+((n+f.At.Items.length+f.At.Ag.length+f.At.Bd.Text.size:Nat):Int).toNat +i+k+Int.toNat 0+1+f.At.Ag.length+f.At.Items.length) 0 (n+f.At.Items.length+f.At.Ag.length+f.At.Bd.Text.size) (by omega) (by omega) (by omega)
    rw [show ((0:Nat):Int)=(0:Int) from rfl] at q1
    rw [q1];simp only [cond_true,At.eta,Int.toNat_natCast];obtain ⟨n2,r1,r2,r3,r4⟩:=w18 g a limit d hl hd B hB P f.At i k ha2 hgI (a.length+limit+(d+1)+n1+i+k+Int.toNat 0+1+f.At.Ag.length+f.At.Items.length) 0 n1 (by omega) (by omega) (by omega)
    rw [show ((0:Nat):Int)=(0:Int) from rfl] at r1
    rw [r1];simp only [cond_true];rw [zbi (by omega)]
    obtain ⟨n',h4,h5,h6,h7⟩:=w9 i hi hla hg fuel (k+1) n2 (by omega) (by omega) (by omega)
    refine ⟨n',h4,by omega,by omega,λhn'=> ?_⟩
    obtain ⟨h8,h9⟩:=h7 hn';obtain ⟨q5,q6⟩:=q4 (by omega)
    obtain ⟨r5,r6⟩:=r4 (by omega)
    rw [List.drop_zero] at q5 q6 r5 r6;rw [zbb hk,zQw,hf,zBS];refine ⟨λy hy=> ?_,by omega⟩
    rcases qd.1 hy with rfl | hy
    ·exact ⟨⟨by omega,by omega,by omega⟩,q5,r5⟩
    ·exact h8 y hy
   ·simp only [Wy.ev_i,Wy.ev_k,Wy.ev_h,Wy.ev_bn,Wy.ev_d,tT,hi,hk,zr3,hn];exact ⟨n,rfl,Nat.le_refl _,by omega,λh=>absurd h hn⟩
  ·simp only [Wy.ev_i,Wy.ev_k,Wy.ev_h,Wy.ev_bn,Wy.ev_d,tT,hi,hk];exact ⟨n,rfl,Nat.le_refl _,by omega,λ_=>by rw [zdA hk,zSA]; exact ⟨λy hy=>(by cases hy),Nat.le_refl _⟩⟩
theorem w5 (hla:∀ t∈a,t.Fs.length<=zby) (hg:∀ t∈a,∀ f∈t.Fs,f.At.Ag.length<=zby/\f.At.Items.length<=zby/\f.At.Bd.Text.size<=zby/\(∀ y∈f.At.Ag,∀ l:Nat,l<=1000->∃ w:Nat,g y l d=(true,(w:Int))/\w<=B/\(w<=l->P y/\zbM y<=w))/\
   ∀ y∈f.At.Items,y.Value.Text.size<=zby/\∀ l:Nat,l<=1000->∃ w:Nat,g y.Ann l d=(true,(w:Int))/\w<=B/\(w<=l->P y.Ann/\zbM y.Ann<=w)) (hlen:a.length<=zby):
  ∀ (fuel i n:Nat),a.length<i+fuel->i<=a.length->n<=2305843009213693952->∃ n':Nat,zuu g fuel a limit (d+1:Nat) n i=(true,(n':Int))/\n<=n'/\n'<=max n (limit+6*zby+B)/\
   (n'<=limit->(n+(a.length - i)<=n'/\n+zbM (a.drop i)<=n')/\∀ t∈a.drop i,t.Fs.length<=1000/\∀ f∈t.Fs,(f.At.Ag.length<=1000/\f.At.Items.length<=1000/\f.At.Bd.Text.size<=1000)/\(∀ y∈f.At.Ag,P y)/\∀ y∈f.At.Items,y.Value.Text.size<=1000/\P y.Ann)
 | 0,i,n,h1,h2,h3=>by omega
 | fuel+1,i,n,h1,h2,h3=>by
  show ∃ n':Nat,(zus g a limit (d+1:Nat) n i).ev (λx y=>zuu g fuel x.1 x.2.1 x.2.2.1 x.2.2.2.1 x.2.2.2.2.1) (λr=>(true,r)) (false,default)=_/\_
  unfold zus;have hml:zby=140737488351232:=rfl;by_cases hi:i<a.length
  ·by_cases hn:n<=limit
   ·simp only [Wy.ev_i,Wy.ev_k,Wy.ev_h,Wy.ev_bn,Wy.ev_d,tT,hi,zr3,hn];have hla':=hla _ (zX hi)
    have e0:IntKind.i64.wrap (IntKind.i64.wrap ((n:Int)+1)+((a.getD i default).Fs.length:Int))=((n+1+(a.getD i default).Fs.length:Nat):Int):=by
     rw [zbi (by omega),zqn (by omega) (by omega)]; omega
    rw [e0];obtain ⟨n1,q1,q2,q3,q4⟩:=w9 g a limit d hl hd B hB P i hi hla' (hg _ (zX hi)) (a.length+limit+(d+1)+((n+1+(a.getD i default).Fs.length:Nat):Int).toNat +i+Int.toNat 0+1) 0 (n+1+(a.getD i default).Fs.length) (by omega) (by omega) (by omega)
    rw [show ((0:Nat):Int)=(0:Int) from rfl] at q1
    rw [q1];simp only [cond_true];rw [zbi (by omega)]
    obtain ⟨n',h4,h5,h6,h7⟩:=w5 hla hg hlen fuel (i+1) n1 (by omega) (by omega) (by omega)
    refine ⟨n',h4,by omega,by omega,λhn'=> ?_⟩
    obtain ⟨⟨h8,h10⟩,h9⟩:=h7 hn';obtain ⟨q5,q6⟩:=q4 (by omega)
    rw [List.drop_zero] at q5 q6;rw [zbb hi,zVK];refine ⟨⟨by omega,by omega⟩,λy hy=> ?_⟩
    rcases qd.1 hy with rfl | hy
    ·exact ⟨by omega,q5⟩
    ·exact h9 y hy
   ·simp only [Wy.ev_i,Wy.ev_k,Wy.ev_h,Wy.ev_bn,Wy.ev_d,tT,hi,zr3,hn];exact ⟨n,rfl,Nat.le_refl _,by omega,λh=>absurd h hn⟩
  ·simp only [Wy.ev_i,Wy.ev_k,Wy.ev_h,Wy.ev_bn,Wy.ev_d,tT,hi];exact ⟨n,rfl,Nat.le_refl _,by omega,λ_=>by rw [zdA hi,zWi]; exact ⟨⟨by omega,Nat.le_refl _⟩,λy hy=>(by cases hy)⟩⟩
end
theorem zS5:∀ (d N:Nat),d<N->d<=12->∀ (l:Nat),l<=1000->∀ a,zjY a->a.length<=zby->∃ w:Nat,zmK N a l d=(true,(w:Int))/\w<=(d+1)*4503599627370496/\(w<=l->zP d a/\zbM a<=w)
 | _,0,h,_,_,_,_,_,_=>by omega
 | 0,N+1,_,_,l,hl,a,hw,hlen=>by
  rw [zBu];unfold zqe zvz;refine ⟨l+1, ?_,by omega,λh=>by omega⟩
  simp only [Wy.fin_i,Wy.fin_k];rw [zbi (by omega)]; rfl
 | d+1,N+1,hN,hd,l,hl,a,hw,hlen=>by
  rw [zBu];unfold zqe zvz;have hml:zby=140737488351232:=rfl;have ih:=λy (h1:zjY y) (h2:y.length<=zby) l hl=>zS5 d N (by omega) (by omega) l hl y h1 h2
  have e0:(((d+1:Nat):Int)==(0:Int))=false:=by
   rw [beq_eq_false_iff_ne]; omega
  obtain ⟨n',h1,h2,h3,h4⟩:=w5 (zmK N) a l d hl (by omega) ((d+1)*4503599627370496) (by omega) (zP d) (λt ht=>(zJX (zES hw t ht)).2.2) (λt ht f hf=>by
   have hx:=zIP (zDv (zAr (zJX (zES hw t ht)).2.1 f hf)).1;refine ⟨hx.1.2,hx.2.1.2,hx.2.2.1.2.2,λy hy l hl=> ?_,λy hy=> ?_⟩
   ·have:=zoC hx.1.1 y hy;exact ih y this.1 this.2 l hl
   ·have:=zyS hx.2.1.1 y hy;exact ⟨this.1.2.2,λl hl=>ih y.Ann this.2.1 this.2.2 l hl⟩) hlen (a.length+l+(d+1)+Int.toNat 0+Int.toNat 0+1) 0 0 (by omega) (by omega) (by omega)
  rw [show ((0:Nat):Int)=(0:Int) from rfl] at h1
  refine ⟨n', ?_,by omega,λhn=> ?_⟩
  ·simp only [Wy.fin_i,Wy.fin_k,Wy.fin_bn,e0,cond_false,Int.toNat_natCast,h1,cond_true]
  ·obtain ⟨⟨h5,h12⟩,h6⟩:=h4 hn;rw [List.drop_zero] at h12;refine ⟨⟨by omega,λt ht=> ?_⟩,by omega⟩
   obtain ⟨h7,h8⟩:=h6 t (by simpa using ht)
   refine ⟨by omega,λf hf=> ?_⟩
   obtain ⟨h9,h10,h11⟩:=h8 f hf;exact ⟨⟨by omega,by omega,by omega⟩,h10,λw hw=>⟨by have:=(h11 w hw).1; omega,(h11 w hw).2⟩⟩
theorem zT5 (limit:Nat) (hl:limit<=1000) (l:yA) (hll:l.length<=1000) (hw:∀ a∈l,zjY a/\a.length<=zby):∀ (n i:Nat),l.length<i+n->i<=l.length->∃ r,zDp n limit l i=(true,r)/\((r=.inl false)\/(r=.inr ()/\∀ a∈l.drop i,zP 12 a/\zbM a<=limit))
 | 0,i,h1,h2=>by omega
 | n+1,i,h1,h2=>by
  show ∃ r,(zDR limit l i).ev (λx y=>zDp n x.1 x.2.1 x.2.2.1) (λr=>(true,r)) (false,.inl default)=(true,r)/\_
  unfold zDR;by_cases hi:i<l.length
  ·obtain ⟨w,q1,q2,q3⟩:=zS5 12 1000 (by omega) (by omega) limit hl _ (hw _ (zX hi)).1 (hw _ (zX hi)).2
   have q1':zCI (l.getD i default) (limit:Int) 12=(true,(w:Int)):=q1;simp only [Wy.ev_i,Wy.ev_k,Wy.ev_h,Wy.ev_bn,Wy.ev_d,tT,hi,q1',zpM];by_cases hg:limit<w
   ·simp only [hg,decide_true,cond_true];exact ⟨_,rfl,.inl rfl⟩
   ·simp only [hg,decide_false,cond_false];rw [zbi (by omega)]
    obtain ⟨r,h3,h4⟩:=zT5 limit hl l hll hw n (i+1) (by omega) (by omega)
    refine ⟨r,h3, ?_⟩;rcases h4 with h4 | ⟨h4,h5⟩
    ·exact .inl h4
    ·refine .inr ⟨h4,λa ha=> ?_⟩
     rw [zbb hi] at ha;rcases qd.1 ha with rfl | ha
     ·exact ⟨(q3 (by omega)).1,by have:=(q3 (by omega)).2; omega⟩
     ·exact h5 a ha
  ·simp only [Wy.ev_i,Wy.ev_k,Wy.ev_h,Wy.ev_bn,Wy.ev_d,tT,hi];exact ⟨_,rfl,.inr ⟨rfl,λa ha=>by rw [zdA hi] at ha; cases ha⟩⟩
theorem z0v (limit:Nat) (hl:limit<=1000) (l:yA) (hll:l.length<=1000) (hw:∀ a∈l,zjY a/\a.length<=zby):∃ b,zwe limit l=(true,b)/\(b=true->∀ a∈l,zP 12 a/\zbM a<=limit):=by
 unfold zwe zON;obtain ⟨r,h1,h2⟩:=zT5 limit hl l hll hw (limit+l.length+Int.toNat 0+1) 0 (by omega) (by omega)
 rw [show ((0:Nat):Int)=(0:Int) from rfl] at h1
 rw [Wy.fin_bn];simp only [Int.toNat_natCast,h1,cond_true];rcases h2 with rfl | ⟨rfl,h2⟩
 ·exact ⟨false,rfl,λh=>by cases h⟩
 ·exact ⟨true,rfl,λ_ a ha=>h2 a (by simpa using ha)⟩
mutual
def zmz:At->Nat
 | ⟨_,_,a,_,i,_,_⟩=>zff a+zd2 i
def zcr:yC->Nat
 | []=>0
 | ⟨x,_⟩::r=>zmz x+zcr r
def zY:yB->Nat
 | []=>0
 | ⟨_,fs⟩::r=>1+fs.length+zcr fs+zY r
def zff:yA->Nat
 | []=>0
 | a::r=>zY a+zff r
def zd2:yD->Nat
 | []=>0
 | ⟨_,a⟩::r=>1+zY a+zd2 r
end
theorem zl8 (x:At):zmz x=zff x.Ag+zd2 x.Items:=by cases x; rw [zmz]
theorem zi3 (f:Fc) (r:yC):zcr (f::r)=zmz f.At+zcr r:=by cases f; rw [zcr]
theorem zsd (t:Term) (r:yB):zY (t::r)=1+t.Fs.length+zcr t.Fs+zY r:=by cases t; rw [zY]
theorem zng (a:yB) (r:yA):zff (a::r)=zY a+zff r:=by rw [zff]
theorem zld (w:Wd) (r:yD):zd2 (w::r)=1+zY w.Ann+zd2 r:=by cases w; rw [zd2]
theorem zVE:zff []=0:=by rw [zff]
theorem zT6:zd2 []=0:=by rw [zd2]
theorem zHk:zcr []=0:=by rw [zcr]
theorem zXa:zY []=0:=by rw [zY]
theorem zRb (l:yA):∀ n:Nat,l.foldl (λs t=>s+zY t) n=n+zff l:=by
 induction l with
 | nil=>intro n; rw [zVE]; rfl
 | cons a r ih=>intro n; rw [List.foldl_cons,ih,zng]; omega
theorem zPa (l:yD):∀ n:Nat,l.foldl (λs t=>s+1+zY t.Ann) n=n+zd2 l:=by
 induction l with
 | nil=>intro n; rw [zT6]; rfl
 | cons a r ih=>intro n; rw [List.foldl_cons,ih,zld]; omega
theorem zTw (l:yC):∀ n:Nat,l.foldl (λs t=>s+zmz t.At) n=n+zcr l:=by
 induction l with
 | nil=>intro n; rw [zHk]; rfl
 | cons a r ih=>intro n; rw [List.foldl_cons,ih,zi3]; omega
theorem zS7 (l:yB):∀ n:Nat,l.foldl (λs t=>s+1+t.Fs.length+zcr t.Fs) n=n+zY l:=by
 induction l with
 | nil=>intro n; rw [zXa]; rfl
 | cons a r ih=>intro n; rw [List.foldl_cons,ih,zsd]; omega
theorem zph {n m:Nat} (h:n+m<=4611686018427387904):IntKind.i64.wrap ((n:Int)+(m:Int))=((n+m:Nat):Int):=by
 rw [zNB (by omega) (by omega)]; omega
theorem zfm {i:Nat} (h:i<4611686018427387904):IntKind.i64.wrap ((i:Int)+1)=((i+1:Nat):Int):=zbi h
section
variable (g:yB->Bool×Int)
theorem zZH (l:yA) (hl:l.length<=1000000) (hg:∀ y∈l,g y=(true,(zY y:Int))) (t12:yB) (t13 t14:Int) (t25:yC) (t26 t27:Int) (f:Fc) (fuel n:Nat) (hf:l.length<fuel) (hn:n+zff l<=4611686018427387904):
  zvH g fuel n t12 t13 t14 t25 t26 t27 l l.length 0 f=(true,(((n+zff l:Nat):Int),t12,t13,t14,t25,t26,t27,f)):=by
 have h:=zeI (W:=zpV g) (z:=default) (l:=l) (λi (n:Nat)=>((n:Int),(),t12,t13,t14,t25,t26,t27,l,(l.length:Int),(i:Int),())) (λ_ _=>(f,())) (λy n=>.inl (n+zY y)) (λn=>((n:Int),t12,t13,t14,t25,t26,t27,f)) (λi n=>n+zff (l.drop i)<=4611686018427387904)
  (λi n hi hI=>.inl ⟨_,rfl,by rw [zbb hi,zng] at hI; omega,λH K D=>by
   rw [zbb hi,zng] at hI;show (zhZ g n t12 t13 t14 t25 t26 t27 l l.length i f).ev H K D=_;unfold zhZ;simp only [Wy.ev_i,Wy.ev_k,Wy.ev_h,Wy.ev_bn,Wy.ev_d,tT,hi,hg _ (zX hi)];rw [zph (by omega),zfm (by omega)]⟩)
  (λn hI H K D=>by
   show (zhZ g n t12 t13 t14 t25 t26 t27 l l.length l.length f).ev H K D=_;unfold zhZ;simp only [Wy.ev_i,Wy.ev_k,tT,Nat.lt_irrefl]) fuel 0 n (by omega) (Nat.zero_le _) (by simpa using hn)
 rw [List.drop_zero,zeO,zRb] at h;exact h
theorem zZP (l:yD) (hl:l.length<=1000000) (hg:∀ y∈l,g y.Ann=(true,(zY y.Ann:Int))) (t12:yB) (t13 t14:Int) (t25:yC) (t26 t27:Int) (fuel n:Nat) (hf:l.length<fuel) (hn:n+zd2 l<=4611686018427387904):
  zwb g fuel n t12 t13 t14 t25 t26 t27 l l.length 0=(true,(((n+zd2 l:Nat):Int),t12,t13,t14,t25,t26,t27)):=by
 have h:=zeI (W:=zpO g) (z:=default) (l:=l) (λi (n:Nat)=>((n:Int),t12,t13,t14,t25,t26,t27,l,(l.length:Int),(i:Int),())) (λ_ _=>()) (λy n=>.inl (n+1+zY y.Ann)) (λn=>((n:Int),t12,t13,t14,t25,t26,t27)) (λi n=>n+zd2 (l.drop i)<=4611686018427387904)
  (λi n hi hI=>.inl ⟨_,rfl,by rw [zbb hi,zld] at hI; omega,λH K D=>by
   rw [zbb hi,zld] at hI;show (zh4 g n t12 t13 t14 t25 t26 t27 l l.length i).ev H K D=_;unfold zh4;simp only [Wy.ev_i,Wy.ev_k,Wy.ev_h,Wy.ev_bn,Wy.ev_d,tT,hi,hg _ (zX hi)];rw [zfm (by omega),show (1:Int)=((1:Nat):Int) from rfl,zph (by omega),zph (by omega), <- Nat.add_assoc]⟩)
  (λn hI H K D=>by
   show (zh4 g n t12 t13 t14 t25 t26 t27 l l.length l.length).ev H K D=_;unfold zh4;simp only [Wy.ev_i,Wy.ev_k,tT,Nat.lt_irrefl]) fuel 0 n (by omega) (Nat.zero_le _) (by simpa using hn)
 rw [List.drop_zero,zeO,zPa] at h;exact h
theorem z0f (l:yC) (hl:l.length<=1000000) (hg:∀ f∈l,(f.At.Ag.length<=1000000/\f.At.Items.length<=1000000)/\(∀ y∈f.At.Ag,g y=(true,(zY y:Int)))/\∀ y∈f.At.Items,g y.Ann=(true,(zY y.Ann:Int))) (t12:yB) (t13 t14:Int) (fuel n:Nat) (hf:l.length<fuel) (hn:n+zcr l<=4611686018427387904):
  zw7 g fuel n t12 t13 t14 l l.length 0=(true,(((n+zcr l:Nat):Int),t12,t13,t14)):=by
 have h:=zeI (W:=zq9 g) (z:=default) (l:=l) (λi (n:Nat)=>((n:Int),t12,t13,t14,l,(l.length:Int),(i:Int),())) (λ_ _=>()) (λy n=>.inl (n+zmz y.At)) (λn=>((n:Int),t12,t13,t14)) (λi n=>n+zcr (l.drop i)<=4611686018427387904)
  (λi n hi hI=>.inl ⟨_,rfl,by rw [zbb hi,zi3] at hI; omega,λH K D=>by
   rw [zbb hi,zi3,zl8] at hI;obtain ⟨⟨h1,h2⟩,h3,h4⟩:=hg _ (zX hi);show (zi2 g n t12 t13 t14 l l.length i).ev H K D=_;unfold zi2;simp only [Wy.ev_i,Wy.ev_k,Wy.ev_h,Wy.ev_bn,Wy.ev_d,tT,hi,At.eta];rw [zZH g _ h1 h3 _ _ _ _ _ _ _ _ _ (by omega) (by omega)]
   simp only [cond_true,Int.toNat_natCast];rw [zZP g _ h2 h4 _ _ _ _ _ _ _ _ (by omega) (by omega)]
   simp only [cond_true];rw [zfm (by omega),zl8,Nat.add_assoc]⟩)
  (λn hI H K D=>by
   show (zi2 g n t12 t13 t14 l l.length l.length).ev H K D=_;unfold zi2;simp only [Wy.ev_i,Wy.ev_k,tT,Nat.lt_irrefl]) fuel 0 n (by omega) (Nat.zero_le _) (by simpa using hn)
 rw [List.drop_zero,zeO,zTw] at h;exact h
theorem z0B (l:yB) (hl:l.length<=1000000) (hg:∀ t∈l,t.Fs.length<=1000000/\∀ f∈t.Fs,(f.At.Ag.length<=1000000/\f.At.Items.length<=1000000)/\(∀ y∈f.At.Ag,g y=(true,(zY y:Int)))/\∀ y∈f.At.Items,g y.Ann=(true,(zY y.Ann:Int))) (fuel n:Nat) (hf:l.length<fuel) (hn:n+zY l<=4611686018427387904):
  zws g fuel n l l.length 0=(true,((n+zY l:Nat):Int)):=by
 have h:=zeI (W:=zri g) (z:=default) (l:=l) (λi (n:Nat)=>((n:Int),l,(l.length:Int),(i:Int),())) (λ_ _=>()) (λy n=>.inl (n+1+y.Fs.length+zcr y.Fs)) (λn=>(n:Int)) (λi n=>n+zY (l.drop i)<=4611686018427387904)
  (λi n hi hI=>.inl ⟨_,rfl,by rw [zbb hi,zsd] at hI; omega,λH K D=>by
   rw [zbb hi,zsd] at hI;obtain ⟨h1,h3⟩:=hg _ (zX hi);show (ziP g n l l.length i).ev H K D=_;unfold ziP;simp only [Wy.ev_i,Wy.ev_k,Wy.ev_h,Wy.ev_bn,Wy.ev_d,tT,hi,At.eta];rw [show (1:Int)=((1:Nat):Int) from rfl,zph (n:=1) (by omega),zph (by omega)]
   rw [z0f g _ h1 h3 _ _ _ _ _ (by omega) (by omega)]
   simp only [cond_true];rw [show ((1:Nat):Int)=(1:Int) from rfl,zfm (by omega),Nat.add_assoc n 1]⟩)
  (λn hI H K D=>by
   show (ziP g n l l.length l.length).ev H K D=_;unfold ziP;simp only [Wy.ev_i,Wy.ev_k,tT,Nat.lt_irrefl]) fuel 0 n (by omega) (Nat.zero_le _) (by simpa using hn)
 rw [List.drop_zero,zeO,zS7] at h;exact h
theorem zYZ (x:At) (hl:x.Ag.length<=1000000) (hg:∀ y∈x.Ag,g y=(true,(zY y:Int))) (a:yB) (i k:Int) (fuel n:Nat) (hf:x.Ag.length<fuel) (hn:n+zff x.Ag<=4611686018427387904):
  zCW g fuel a n i k 0 x=(true,(a,((n+zff x.Ag:Nat):Int),i,k,x)):=by
 have h:=zeI (W:=zvp g) (z:=default) (l:=x.Ag) (λj (n:Nat)=>(a,(n:Int),i,k,(),(j:Int),())) (λ_ _=>(x,())) (λy n=>.inl (n+zY y)) (λn=>(a,(n:Int),i,k,x)) (λi n=>n+zff (x.Ag.drop i)<=4611686018427387904)
  (λj n hi hI=>.inl ⟨_,rfl,by rw [zbb hi,zng] at hI; omega,λH K D=>by
   rw [zbb hi,zng] at hI;show (zmX g a n i k j x).ev H K D=_;unfold zmX;simp only [Wy.ev_i,Wy.ev_k,Wy.ev_h,Wy.ev_bn,Wy.ev_d,tT,hi,hg _ (zX hi)];rw [zph (by omega),zfm (by omega)]⟩)
  (λn hI H K D=>by
   show (zmX g a n i k x.Ag.length x).ev H K D=_;unfold zmX;simp only [Wy.ev_i,Wy.ev_k,tT,Nat.lt_irrefl]) fuel 0 n (by omega) (Nat.zero_le _) (by simpa using hn)
 rw [List.drop_zero,zeO,zRb] at h;exact h
theorem zYk (x:At) (hl:x.Items.length<=1000000) (hg:∀ y∈x.Items,g y.Ann=(true,(zY y.Ann:Int))) (a:yB) (i k:Int) (fuel n:Nat) (hf:x.Items.length<fuel) (hn:n+zd2 x.Items<=4611686018427387904):
  zDf g fuel a n i k 0 x=(true,(a,((n+zd2 x.Items:Nat):Int),i,k)):=by
 have h:=zeI (W:=zvo g) (z:=default) (l:=x.Items) (λj (n:Nat)=>(a,(n:Int),i,k,(),(j:Int),())) (λ_ _=>(x,())) (λy n=>.inl (n+1+zY y.Ann)) (λn=>(a,(n:Int),i,k)) (λi n=>n+zd2 (x.Items.drop i)<=4611686018427387904)
  (λj n hi hI=>.inl ⟨_,rfl,by rw [zbb hi,zld] at hI; omega,λH K D=>by
   rw [zbb hi,zld] at hI;show (zmM g a n i k j x).ev H K D=_;unfold zmM;simp only [Wy.ev_i,Wy.ev_k,Wy.ev_h,Wy.ev_bn,Wy.ev_d,tT,hi,hg _ (zX hi)];rw [zfm (i:=j) (by omega),zfm (i:=n) (by omega),zph (by omega)]⟩)
  (λn hI H K D=>by
   show (zmM g a n i k x.Items.length x).ev H K D=_;unfold zmM;simp only [Wy.ev_i,Wy.ev_k,tT,Nat.lt_irrefl]) fuel 0 n (by omega) (Nat.zero_le _) (by simpa using hn)
 rw [List.drop_zero,zeO,zPa] at h;exact h
theorem zxX:∀ (a:yB) (i:Nat),i<a.length->(a.getD i default).Fs.length<=zdi a
 | [],i,h=>by simp at h
 | t::r,0,h=>by
  have:∀ l:yC,l.length<=zWB l:=λl=>by
   induction l with
   | nil=>exact Nat.le_refl _
   | cons f r ih=>simp only [zWB,qf]; omega
  have:=this t.Fs;simp only [zdi,List.getD_cons_zero]; omega
 | t::r,i+1,h=>by
  have:=zxX r i (by simpa using h)
  simp only [zdi,List.getD_cons_succ]; omega
theorem foldl_factors' (l:yC):∀ n:Nat,l.foldl (λs t=>s+1+zmz t.At) n=n+l.length+zcr l:=by
 induction l with
 | nil=>intro n; rw [zHk]; rfl
 | cons a r ih=>intro n; rw [List.foldl_cons,ih,zi3,qf]; omega
theorem zZY (a:yB) (i:Nat) (hi:i<a.length) (hla:a.length<=1000000) (l:yC) (el:(a.getD i default).Fs=l) (hl:l.length<=1000000) (hg:∀ f∈l,(f.At.Ag.length<=1000000/\f.At.Items.length<=1000000)/\(∀ y∈f.At.Ag,g y=(true,(zY y:Int)))/\∀ y∈f.At.Items,g y.Ann=(true,(zY y.Ann:Int))) (fuel n:Nat) (hf:l.length<fuel) (hn:n+l.length+zcr l<=4611686018427387904):
  zFh g fuel a n i 0=(true,(a,((n+l.length+zcr l:Nat):Int),(i:Int))):=by
 have h:=zeI (W:=zwN g) (z:=default) (l:=l) (λk (n:Nat)=>(a,(n:Int),(i:Int),(k:Int),())) (λ_ _=>()) (λy n=>.inl (n+1+zmz y.At)) (λn=>(a,(n:Int),(i:Int))) (λk n=>n+(l.drop k).length+zcr (l.drop k)<=4611686018427387904)
  (λk n hk hI=>.inl ⟨_,rfl,by rw [zbb hk,zi3,qf] at hI; omega,λH K D=>by
   rw [zbb hk,zi3,zl8,qf] at hI;obtain ⟨⟨h1,h2⟩,h3,h4⟩:=hg _ (zX hk);show (zo5 g a n i k).ev H K D=_;unfold zo5;simp only [Wy.ev_i,Wy.ev_k,Wy.ev_h,Wy.ev_bn,Wy.ev_d,tT,hi,el,hk,At.eta];rw [zfm (i:=n) (by omega)]
   rw [zYZ g _ h1 h3 _ _ _ _ _ (by omega) (by omega)]
   simp only [cond_true,Int.toNat_natCast,At.eta];rw [zYk g _ h2 h4 _ _ _ _ _ (by omega) (by omega)]
   simp only [cond_true];rw [zfm (by omega),zl8,Nat.add_assoc (n+1)]⟩)
  (λn hI H K D=>by
   show (zo5 g a n i l.length).ev H K D=_;unfold zo5;simp only [Wy.ev_i,Wy.ev_k,tT,hi,el,Nat.lt_irrefl]) fuel 0 n (by omega) (Nat.zero_le _) (by simpa using hn)
 rw [List.drop_zero,zeO,foldl_factors'] at h;exact h
theorem zZy (l:yB) (hl:l.length<=1000000) (hg:∀ t∈l,t.Fs.length<=1000000/\∀ f∈t.Fs,(f.At.Ag.length<=1000000/\f.At.Items.length<=1000000)/\(∀ y∈f.At.Ag,g y=(true,(zY y:Int)))/\∀ y∈f.At.Items,g y.Ann=(true,(zY y.Ann:Int))) (fuel n:Nat) (hf:l.length<fuel) (hn:n+zY l<=4611686018427387904):
  zE6 g fuel l n 0=(true,((n+zY l:Nat):Int)):=by
 have h:=zeI (W:=zwo g) (z:=default) (l:=l) (λi (n:Nat)=>(l,(n:Int),(i:Int),())) (λ_ _=>()) (λy n=>.inl (n+1+y.Fs.length+zcr y.Fs)) (λn=>(n:Int)) (λi n=>n+zY (l.drop i)<=4611686018427387904)
  (λi n hi hI=>.inl ⟨_,rfl,by rw [zbb hi,zsd] at hI; omega,λH K D=>by
   rw [zbb hi,zsd] at hI;obtain ⟨h1,h3⟩:=hg _ (zX hi);have hz:=zxX l i hi;show (zoP g l n i).ev H K D=_;unfold zoP;simp only [Wy.ev_i,Wy.ev_k,Wy.ev_h,Wy.ev_bn,Wy.ev_d,tT,hi,At.eta];rw [zfm (i:=n) (by omega)]
   rw [zZY g l i hi hl _ rfl h1 h3 _ _ (by omega) (by omega)]
   simp only [cond_true];rw [zfm (by omega)]⟩)
  (λn hI H K D=>by
   show (zoP g l n l.length).ev H K D=_;unfold zoP;simp only [Wy.ev_i,Wy.ev_k,tT,Nat.lt_irrefl]) fuel 0 n (by omega) (Nat.zero_le _) (by simpa using hn)
 rw [List.drop_zero,zeO,zS7] at h;exact h
end
theorem zVN {l:yA} {y:yB} (h:y∈l):zY y<=zff l:=by
 induction l with
 | nil=>cases h
 | cons a r ih=>
  rw [zng];rcases qd.1 h with rfl | h
  ·omega
  ·have:=ih h; omega
theorem zUG {l:yD} {y:Wd} (h:y∈l):zY y.Ann<=zd2 l:=by
 induction l with
 | nil=>cases h
 | cons a r ih=>
  rw [zld];rcases qd.1 h with rfl | h
  ·omega
  ·have:=ih h; omega
theorem zSk {l:yC} {y:Fc} (h:y∈l):zmz y.At<=zcr l:=by
 induction l with
 | nil=>cases h
 | cons a r ih=>
  rw [zi3];rcases qd.1 h with rfl | h
  ·omega
  ·have:=ih h; omega
theorem zWR {l:yB} {y:Term} (h:y∈l):zcr y.Fs<=zY l:=by
 induction l with
 | nil=>cases h
 | cons a r ih=>
  rw [zsd];rcases qd.1 h with rfl | h
  ·omega
  ·have:=ih h; omega
theorem zR8 {a:yB} {t:Term} {f:Fc} (ht:t∈a) (hf:f∈t.Fs):zff f.At.Ag+zd2 f.At.Items<=zY a:=by
 have h1:=zWR ht; have h2:=zSk hf; rw [zl8] at h2; omega
theorem zFn {d:Nat} {a:yB} (h:zP (d+1) a) {t:Term} (ht:t∈a):t.Fs.length<=1000000/\∀ f∈t.Fs,(f.At.Ag.length<=1000000/\f.At.Items.length<=1000000)/\(∀ y∈f.At.Ag,zP d y)/\∀ y∈f.At.Items,zP d y.Ann:=
 ⟨(h.2 t ht).1,λf hf=>have q:=(h.2 t ht).2 f hf; ⟨⟨q.1.1,q.1.2.1⟩,q.2.1,λy hy=>(q.2.2 y hy).2⟩⟩
theorem zJt:∀ (n d:Nat) (a:yB),zP d a->d<=n->zY a<=4611686018427387904->zi7 n a=(true,(zY a:Int))/\zqq n a=(true,(zY a:Int))
 | n,0,a,h,hd,hs=>h.elim
 | 0,d+1,a,h,hd,hs=>by omega
 | n+1,d+1,a,h,hd,hs=>by
  have hg:=λy (hy:zP d y) (hs:zY y<=4611686018427387904)=>zJt n d y hy (by omega) hs
  have hsub:∀ t∈a,t.Fs.length<=1000000/\∀ f∈t.Fs,(f.At.Ag.length<=1000000/\f.At.Items.length<=1000000)/\(∀ y∈f.At.Ag,zP d y/\zY y<=4611686018427387904)/\∀ y∈f.At.Items,zP d y.Ann/\zY y.Ann<=4611686018427387904:=λt ht=>by
   obtain ⟨h1,h2⟩:=zFn h ht;refine ⟨h1,λf hf=> ?_⟩
   obtain ⟨h3,h4,h5⟩:=h2 f hf;have h6:=zR8 ht hf;exact ⟨h3,λy hy=>⟨h4 y hy,by have:=zVN hy; omega⟩,λy hy=>⟨h5 y hy,by have:=zUG hy; omega⟩⟩
  constructor
  ·rw [zIj];unfold zpG zxQ
   have h1:=z0B (zi7 n) a h.1 (λt ht=>⟨(hsub t ht).1,λf hf=>⟨((hsub t ht).2 f hf).1,λy hy=>(hg y (((hsub t ht).2 f hf).2.1 y hy).1 (((hsub t ht).2 f hf).2.1 y hy).2).1,λy hy=>(hg _ (((hsub t ht).2 f hf).2.2 y hy).1 (((hsub t ht).2 f hf).2.2 y hy).2).1⟩⟩)
    (Int.toNat 0+a.length+(Int.ofNat a.length).toNat +Int.toNat 0+1) 0 (by omega) (by omega)
   rw [show ((0:Nat):Int)=(0:Int) from rfl,Nat.zero_add] at h1
   rw [Wy.fin_bn,show Int.ofNat a.length=(a.length:Int) from rfl] at *
   rw [h1]; rfl
  ·rw [zRn];unfold zwU zHX
   have h1:=zZy (zqq n) a h.1 (λt ht=>⟨(hsub t ht).1,λf hf=>⟨((hsub t ht).2 f hf).1,λy hy=>(hg y (((hsub t ht).2 f hf).2.1 y hy).1 (((hsub t ht).2 f hf).2.1 y hy).2).2,λy hy=>(hg _ (((hsub t ht).2 f hf).2.2 y hy).1 (((hsub t ht).2 f hf).2.2 y hy).2).2⟩⟩)
    (a.length+Int.toNat 0+Int.toNat 0+1+zdi a) 0 (by omega) (by omega)
   rw [show ((0:Nat):Int)=(0:Int) from rfl,Nat.zero_add] at h1
   rw [Wy.fin_bn,h1]; rfl
mutual
def zp9:At->Nat
 | ⟨k,_,a,_,i,_,_⟩=>if k=0 then 0 else 1+max (zkQ a) (zjL i)
def zeg:yC->Nat
 | []=>0
 | ⟨x,_⟩::r=>max (zp9 x) (zeg r)
def zbI:yB->Nat
 | []=>0
 | ⟨_,fs⟩::r=>max (zeg fs) (zbI r)
def zkQ:yA->Nat
 | []=>0
 | a::r=>max (zbI a) (zkQ r)
def zjL:yD->Nat
 | []=>0
 | ⟨_,a⟩::r=>max (zbI a) (zjL r)
end
theorem zB8 (x:At):zp9 x=if x.Kind=0 then 0 else 1+max (zkQ x.Ag) (zjL x.Items):=by cases x; rw [zp9]
theorem zE8 (f:Fc) (r:yC):zeg (f::r)=max (zp9 f.At) (zeg r):=by cases f; rw [zeg]
theorem zO4 (t:Term) (r:yB):zbI (t::r)=max (zeg t.Fs) (zbI r):=by cases t; rw [zbI]
theorem zCt (a:yB) (r:yA):zkQ (a::r)=max (zbI a) (zkQ r):=by rw [zkQ]
theorem zAN (w:Wd) (r:yD):zjL (w::r)=max (zbI w.Ann) (zjL r):=by cases w; rw [zjL]
theorem zFT:zkQ []=0:=by rw [zkQ]
theorem zDA:zjL []=0:=by rw [zjL]
theorem zHd:zeg []=0:=by rw [zeg]
theorem zQE:zbI []=0:=by rw [zbI]
theorem zWU (l:yA):∀ n:Nat,l.foldl (λs t=>max s (zbI t)) n=max n (zkQ l):=by
 induction l with
 | nil=>intro n; rw [zFT]; exact (Nat.max_zero n).symm
 | cons a r ih=>intro n; rw [List.foldl_cons,ih,zCt]; omega
theorem zVs (l:yD):∀ n:Nat,l.foldl (λs t=>max s (zbI t.Ann)) n=max n (zjL l):=by
 induction l with
 | nil=>intro n; rw [zDA]; exact (Nat.max_zero n).symm
 | cons a r ih=>intro n; rw [List.foldl_cons,ih,zAN]; omega
theorem zVM (l:yA):∀ n:Nat,l.foldl (λs t=>max s (1+zbI t)) (1+n)=1+max n (zkQ l):=by
 induction l with
 | nil=>intro n; rw [zFT]; simp
 | cons a r ih=>intro n; rw [List.foldl_cons,show max (1+n) (1+zbI a)=1+max n (zbI a) by omega,ih,zCt]; omega
theorem zUo (l:yD):∀ n:Nat,l.foldl (λs t=>max s (1+zbI t.Ann)) (1+n)=1+max n (zjL l):=by
 induction l with
 | nil=>intro n; rw [zDA]; simp
 | cons a r ih=>intro n; rw [List.foldl_cons,show max (1+n) (1+zbI a.Ann)=1+max n (zbI a.Ann) by omega,ih,zAN]; omega
theorem zKi (l:yC):∀ n:Nat,l.foldl (λs t=>max s (zp9 t.At)) n=max n (zeg l):=by
 induction l with
 | nil=>intro n; rw [zHd]; exact (Nat.max_zero n).symm
 | cons a r ih=>intro n; rw [List.foldl_cons,ih,zE8]; omega
theorem zST (l:yB):∀ n:Nat,l.foldl (λs t=>max s (zeg t.Fs)) n=max n (zbI l):=by
 induction l with
 | nil=>intro n; rw [zQE]; exact (Nat.max_zero n).symm
 | cons a r ih=>intro n; rw [List.foldl_cons,ih,zO4]; omega
theorem zNG (a b:Nat):(if (a:Int)>(b:Int) then (a:Int) else (b:Int))=((max b a:Nat):Int):=by split <;>omega
theorem zRE {d:Nat}:∀ l:yA,(∀ y∈l,zbI y<=d)->zkQ l<=d:=λl=>by
 induction l with
 | nil=>intro _; rw [zFT]; omega
 | cons y r ih=>intro hy; rw [zCt]; have h1:=hy y (by simp); have h2:=ih λz hz=>hy z (by simp [hz]); omega
theorem zOJ {d:Nat}:∀ l:yD,(∀ y∈l,zbI y.Ann<=d)->zjL l<=d:=λl=>by
 induction l with
 | nil=>intro _; rw [zDA]; omega
 | cons y r ih=>intro hy; rw [zAN]; have h1:=hy y (by simp); have h2:=ih λz hz=>hy z (by simp [hz]); omega
theorem zTG {d:Nat}:∀ l:yC,(∀ y∈l,zp9 y.At<=d)->zeg l<=d:=λl=>by
 induction l with
 | nil=>intro _; rw [zHd]; omega
 | cons y r ih=>intro hy; rw [zE8]; have h1:=hy y (by simp); have h2:=ih λz hz=>hy z (by simp [hz]); omega
theorem zX8 {d:Nat}:∀ l:yB,(∀ y∈l,zeg y.Fs<=d)->zbI l<=d:=λl=>by
 induction l with
 | nil=>intro _; rw [zQE]; omega
 | cons y r ih=>intro hy; rw [zO4]; have h1:=hy y (by simp); have h2:=ih λz hz=>hy z (by simp [hz]); omega
theorem zJV:∀ (d:Nat) (a:yB),zP d a->zbI a<=d
 | 0,a,h=>h.elim
 | d+1,a,h=>zX8 a λt ht=>zTG _ λf hf=>by
  obtain ⟨_,h2⟩:=zFn h ht;obtain ⟨_,h4,h5⟩:=h2 f hf;have q1:=zRE f.At.Ag λy hy=>zJV d y (h4 y hy)
  have q2:=zOJ f.At.Items λy hy=>zJV d y.Ann (h5 y hy)
  rw [zB8]; split <;>omega
section
variable (g:yB->Bool×Int)
theorem z0k (l:yA) (hl:l.length<=1000000) (hg:∀ y∈l,g y=(true,(zbI y:Int))) (nn:Int) (t13:yB) (t14 t15:Int) (t20:yC) (t21 t22:Int) (f:Fc) (fuel n:Nat) (hf:l.length<fuel):
  ztm g fuel nn n t13 t14 t15 t20 t21 t22 l l.length 0 f=(true,(nn,((max n (zkQ l):Nat):Int),t13,t14,t15,t20,t21,t22,f)):=by
 have h:=zeI (W:=zna g) (z:=default) (l:=l) (λi (n:Nat)=>(nn,(),(n:Int),t13,t14,t15,t20,t21,t22,l,(l.length:Int),(i:Int),())) (λ_ _=>(f,())) (λy n=>.inl (max n (zbI y))) (λn=>(nn,(n:Int),t13,t14,t15,t20,t21,t22,f)) (λi n=>True)
  (λi n hi hI=>.inl ⟨_,rfl,trivial,λH K D=>by
   show (zgg g nn n t13 t14 t15 t20 t21 t22 l l.length i f).ev H K D=_;unfold zgg;simp only [Wy.ev_i,Wy.ev_k,Wy.ev_h,Wy.ev_bn,Wy.ev_d,tT,hi,hg _ (zX hi),zNG];rw [zfm (by omega)]⟩)
  (λn hI H K D=>by
   show (zgg g nn n t13 t14 t15 t20 t21 t22 l l.length l.length f).ev H K D=_;unfold zgg;simp only [Wy.ev_i,Wy.ev_k,tT,Nat.lt_irrefl]) fuel 0 n (by omega) (Nat.zero_le _) trivial
 rw [List.drop_zero,zeO,zWU] at h;exact h
theorem z0s (l:yD) (hl:l.length<=1000000) (hg:∀ y∈l,g y.Ann=(true,(zbI y.Ann:Int))) (nn:Int) (t13:yB) (t14 t15:Int) (t20:yC) (t21 t22:Int) (fuel n:Nat) (hf:l.length<fuel):
  ztq g fuel nn n t13 t14 t15 t20 t21 t22 l l.length 0=(true,(nn,((max n (zjL l):Nat):Int),t13,t14,t15,t20,t21,t22)):=by
 have h:=zeI (W:=zm8 g) (z:=default) (l:=l) (λi (n:Nat)=>(nn,(n:Int),t13,t14,t15,t20,t21,t22,l,(l.length:Int),(i:Int),())) (λ_ _=>()) (λy n=>.inl (max n (zbI y.Ann))) (λn=>(nn,(n:Int),t13,t14,t15,t20,t21,t22)) (λi n=>True)
  (λi n hi hI=>.inl ⟨_,rfl,trivial,λH K D=>by
   show (zgd g nn n t13 t14 t15 t20 t21 t22 l l.length i).ev H K D=_;unfold zgd;simp only [Wy.ev_i,Wy.ev_k,Wy.ev_h,Wy.ev_bn,Wy.ev_d,tT,hi,hg _ (zX hi),zNG];rw [zfm (by omega)]⟩)
  (λn hI H K D=>by
   show (zgd g nn n t13 t14 t15 t20 t21 t22 l l.length l.length).ev H K D=_;unfold zgd;simp only [Wy.ev_i,Wy.ev_k,tT,Nat.lt_irrefl]) fuel 0 n (by omega) (Nat.zero_le _) trivial
 rw [List.drop_zero,zeO,zVs] at h;exact h
def zIQ (x:At):Prop:=(x.Ag.length<=1000000/\x.Items.length<=1000000)/\(zp9 x<=1000/\(∀ y∈x.Ag,zbI y<=1000)/\∀ y∈x.Items,zbI y.Ann<=1000)/\(∀ y∈x.Ag,g y=(true,(zbI y:Int)))/\∀ y∈x.Items,g y.Ann=(true,(zbI y.Ann:Int))
theorem z1b (l:yC) (hl:l.length<=1000000) (hg:∀ f∈l,zIQ g f.At) (t13:yB) (t14 t15:Int) (fuel n:Nat) (hf:l.length<fuel):
  zuk g fuel n t13 t14 t15 l l.length 0=(true,(((max n (zeg l):Nat):Int),t13,t14,t15)):=by
 have h:=zeI (W:=zn3 g) (z:=default) (l:=l) (λi (n:Nat)=>((n:Int),t13,t14,t15,l,(l.length:Int),(i:Int),())) (λ_ _=>()) (λy n=>.inl (max n (zp9 y.At))) (λn=>((n:Int),t13,t14,t15)) (λi n=>True)
  (λi n hi hI=>.inl ⟨_,rfl,trivial,λH K D=>by
   obtain ⟨⟨h1,h2⟩,⟨h5,_,_⟩,h3,h4⟩:=hg _ (zX hi);show (zg4 g n t13 t14 t15 l l.length i).ev H K D=_;unfold zg4;simp only [Wy.ev_i,Wy.ev_k,Wy.ev_h,Wy.ev_bn,Wy.ev_d,tT,hi,At.eta];generalize l.getD i default=f at *;rw [zB8] at h5 ⊢;by_cases hk:f.At.Kind=0
   ·have e:(f.At.Kind==0)=true:=by simp [hk]
    simp only [e,cond_true];rw [if_pos hk,Nat.max_zero,zfm (by omega)]
   ·have e:(f.At.Kind==0)=false:=by simp [hk]
    simp only [e,cond_false];rw [if_neg hk] at h5 ⊢;have q:=λfuel hf=>z0k g _ h1 h3 n t13 t14 t15 l l.length i f fuel 0 hf
    rw [Nat.zero_max,show ((0:Nat):Int)=(0:Int) from rfl] at q
    rw [q _ (by omega)]
    simp only [cond_true,Int.toNat_natCast];rw [z0s g _ h2 h4 n t13 t14 t15 l l.length i _ _ (by omega)]
    simp only [cond_true];rw [zfm (by omega),show (1:Int)=((1:Nat):Int) from rfl,zph (n:=1) (by omega),zNG]⟩)
  (λn hI H K D=>by
   show (zg4 g n t13 t14 t15 l l.length l.length).ev H K D=_;unfold zg4;simp only [Wy.ev_i,Wy.ev_k,tT,Nat.lt_irrefl]) fuel 0 n (by omega) (Nat.zero_le _) trivial
 rw [List.drop_zero,zeO,zKi] at h;exact h
theorem z02 (l:yB) (hl:l.length<=1000000) (hg:∀ t∈l,t.Fs.length<=1000000/\∀ f∈t.Fs,zIQ g f.At) (fuel n:Nat) (hf:l.length<fuel):
  zuf g fuel n l l.length 0=(true,((max n (zbI l):Nat):Int)):=by
 have h:=zeI (W:=znT g) (z:=default) (l:=l) (λi (n:Nat)=>((n:Int),l,(l.length:Int),(i:Int),())) (λ_ _=>()) (λy n=>.inl (max n (zeg y.Fs))) (λn=>(n:Int)) (λi n=>True)
  (λi n hi hI=>.inl ⟨_,rfl,trivial,λH K D=>by
   obtain ⟨h1,h3⟩:=hg _ (zX hi);show (zgZ g n l l.length i).ev H K D=_;unfold zgZ;simp only [Wy.ev_i,Wy.ev_k,Wy.ev_h,Wy.ev_bn,Wy.ev_d,tT,hi,At.eta];rw [z1b g _ h1 h3 _ _ _ _ _ (by omega)]
   simp only [cond_true];rw [zfm (by omega)]⟩)
  (λn hI H K D=>by
   show (zgZ g n l l.length l.length).ev H K D=_;unfold zgZ;simp only [Wy.ev_i,Wy.ev_k,tT,Nat.lt_irrefl]) fuel 0 n (by omega) (Nat.zero_le _) trivial
 rw [List.drop_zero,zeO,zST] at h;exact h
theorem zZK (x:At) (hx:zIQ g x) (a:yB) (most i k:Int) (fuel n:Nat) (hf:x.Ag.length<fuel):
  zsp g fuel a most i k ((1+n:Nat):Int) 0 x=(true,(a,most,i,k,((1+max n (zkQ x.Ag):Nat):Int),x)):=by
 obtain ⟨⟨h1,h2⟩,⟨h5,h6,h7⟩,h3,h4⟩:=hx
 have h:=zeI (W:=zsx g) (z:=default) (l:=x.Ag) (λj (n:Nat)=>(a,most,i,k,(),(n:Int),(j:Int),())) (λ_ _=>(x,())) (λy n=>.inl (max n (1+zbI y))) (λn=>(a,most,i,k,(n:Int),x)) (λi n=>True)
  (λj n hi hI=>.inl ⟨_,rfl,trivial,λH K D=>by
   have h8:=h6 _ (zX hi);show (zjv g a most i k n j x).ev H K D=_;unfold zjv;simp only [Wy.ev_i,Wy.ev_k,Wy.ev_h,Wy.ev_bn,Wy.ev_d,tT,hi,h3 _ (zX hi)];rw [zfm (by omega),show (1:Int)=((1:Nat):Int) from rfl,zph (n:=1) (by omega),zNG]⟩)
  (λn hI H K D=>by
   show (zjv g a most i k n x.Ag.length x).ev H K D=_;unfold zjv;simp only [Wy.ev_i,Wy.ev_k,tT,Nat.lt_irrefl]) fuel 0 (1+n) (by omega) (Nat.zero_le _) trivial
 rw [List.drop_zero,zeO,zVM] at h;exact h
theorem zZ3 (x:At) (hx:zIQ g x) (a:yB) (most i k:Int) (fuel n:Nat) (hf:x.Items.length<fuel):
  zxR g fuel a most i k ((1+n:Nat):Int) 0 x=(true,(a,most,i,k,((1+max n (zjL x.Items):Nat):Int))):=by
 obtain ⟨⟨h1,h2⟩,⟨h5,h6,h7⟩,h3,h4⟩:=hx
 have h:=zeI (W:=zsz g) (z:=default) (l:=x.Items) (λj (n:Nat)=>(a,most,i,k,(),(n:Int),(j:Int),())) (λ_ _=>(x,())) (λy n=>.inl (max n (1+zbI y.Ann))) (λn=>(a,most,i,k,(n:Int))) (λi n=>True)
  (λj n hi hI=>.inl ⟨_,rfl,trivial,λH K D=>by
   have h8:=h7 _ (zX hi);show (zjD g a most i k n j x).ev H K D=_;unfold zjD;simp only [Wy.ev_i,Wy.ev_k,Wy.ev_h,Wy.ev_bn,Wy.ev_d,tT,hi,h4 _ (zX hi)];rw [zfm (by omega),show (1:Int)=((1:Nat):Int) from rfl,zph (n:=1) (by omega),zNG]⟩)
  (λn hI H K D=>by
   show (zjD g a most i k n x.Items.length x).ev H K D=_;unfold zjD;simp only [Wy.ev_i,Wy.ev_k,tT,Nat.lt_irrefl]) fuel 0 (1+n) (by omega) (Nat.zero_le _) trivial
 rw [List.drop_zero,zeO,zUo] at h;exact h
theorem RNes_12' (x:At) (hx:zIQ g x) (a:yB) (most i k:Int) (fuel:Nat) (hf:x.Ag.length<fuel):zsp g fuel a most i k 1 0 x=(true,(a,most,i,k,((1+zkQ x.Ag:Nat):Int),x)):=by
 have h:=zZK g x hx a most i k fuel 0 hf;rw [Nat.zero_max] at h; exact h
theorem z0I (a:yB) (i:Nat) (hi:i<a.length) (hla:a.length<=1000000) (l:yC) (el:(a.getD i default).Fs=l) (hl:l.length<=1000000) (hg:∀ f∈l,zIQ g f.At) (fuel n:Nat) (hf:l.length<fuel):
  zz8 g fuel a n i 0=(true,(a,((max n (zeg l):Nat):Int),(i:Int))):=by
 have h:=zeI (W:=ztj g) (z:=default) (l:=l) (λk (n:Nat)=>(a,(n:Int),(i:Int),(k:Int),())) (λ_ _=>()) (λy n=>.inl (max n (zp9 y.At))) (λn=>(a,(n:Int),(i:Int))) (λk n=>True)
  (λk n hk hI=>.inl ⟨_,rfl,trivial,λH K D=>by
   have hx:=hg _ (zX hk);have h5:=hx.2.1.1;show (zkk g a n i k).ev H K D=_;unfold zkk;simp only [Wy.ev_i,Wy.ev_k,Wy.ev_h,Wy.ev_bn,Wy.ev_d,tT,hi,el,hk,At.eta];generalize l.getD k default=f at *;rw [zB8] at h5 ⊢;by_cases hz:f.At.Kind=0
   ·have e:(f.At.Kind==0)=true:=by simp [hz]
    simp only [e,cond_true];rw [if_pos hz,Nat.max_zero,zfm (by omega)]
   ·have e:(f.At.Kind==0)=false:=by simp [hz]
    have hx1:=hx.1;simp only [e,cond_false];rw [if_neg hz] at h5 ⊢;rw [RNes_12' g _ hx _ _ _ _ _ (by omega)]
    simp only [cond_true,Int.toNat_natCast,At.eta];rw [zZ3 g _ hx _ _ _ _ _ _ (by omega)]
    simp only [cond_true];rw [zfm (by omega),zNG]⟩)
  (λn hI H K D=>by
   show (zkk g a n i l.length).ev H K D=_;unfold zkk;simp only [Wy.ev_i,Wy.ev_k,tT,hi,el,Nat.lt_irrefl]) fuel 0 n (by omega) (Nat.zero_le _) trivial
 rw [List.drop_zero,zeO,zKi] at h;exact h
theorem z0c (l:yB) (hl:l.length<=1000000) (hg:∀ t∈l,t.Fs.length<=1000000/\∀ f∈t.Fs,zIQ g f.At) (fuel n:Nat) (hf:l.length<fuel):
  zy3 g fuel l n 0=(true,((max n (zbI l):Nat):Int)):=by
 have h:=zeI (W:=zto g) (z:=default) (l:=l) (λi (n:Nat)=>(l,(n:Int),(i:Int),())) (λ_ _=>()) (λy n=>.inl (max n (zeg y.Fs))) (λn=>(n:Int)) (λi n=>True)
  (λi n hi hI=>.inl ⟨_,rfl,trivial,λH K D=>by
   obtain ⟨h1,h3⟩:=hg _ (zX hi);have hz:=zxX l i hi;show (zkn g l n i).ev H K D=_;unfold zkn;simp only [Wy.ev_i,Wy.ev_k,Wy.ev_h,Wy.ev_bn,Wy.ev_d,tT,hi,At.eta];rw [z0I g l i hi hl _ rfl h1 h3 _ _ (by omega)]
   simp only [cond_true];rw [zfm (by omega)]⟩)
  (λn hI H K D=>by
   show (zkn g l n l.length).ev H K D=_;unfold zkn;simp only [Wy.ev_i,Wy.ev_k,tT,Nat.lt_irrefl]) fuel 0 n (by omega) (Nat.zero_le _) trivial
 rw [List.drop_zero,zeO,zST] at h;exact h
end
theorem zRI:∀ (n d:Nat) (a:yB),zP d a->d<=n->d<=100->zeZ n a=(true,(zbI a:Int))/\ziT n a=(true,(zbI a:Int))
 | n,0,a,h,hd,hs=>h.elim
 | 0,d+1,a,h,hd,hs=>by omega
 | n+1,d+1,a,h,hd,hs=>by
  have hg:=λy (hy:zP d y)=>zRI n d y hy (by omega) (by omega)
  have hsub:∀ t∈a,t.Fs.length<=1000000/\∀ f∈t.Fs,zIQ (zeZ n) f.At/\zIQ (ziT n) f.At:=λt ht=>by
   obtain ⟨h1,h2⟩:=zFn h ht;refine ⟨h1,λf hf=> ?_⟩
   obtain ⟨h3,h4,h5⟩:=h2 f hf;have q1:∀ y∈f.At.Ag,zbI y<=d:=λy hy=>zJV d y (h4 y hy)
   have q2:∀ y∈f.At.Items,zbI y.Ann<=d:=λy hy=>zJV d y.Ann (h5 y hy)
   have q3:zp9 f.At<=1000:=by
    have r1:=zRE _ q1; have r2:=zOJ _ q2;rw [zB8]; split <;>omega
   have q4:zp9 f.At<=1000/\(∀ y∈f.At.Ag,zbI y<=1000)/\∀ y∈f.At.Items,zbI y.Ann<=1000:=⟨q3,λy hy=>by have:=q1 y hy; omega,λy hy=>by have:=q2 y hy; omega⟩
   exact ⟨⟨h3,q4,λy hy=>(hg y (h4 y hy)).1,λy hy=>(hg _ (h5 y hy)).1⟩,⟨h3,q4,λy hy=>(hg y (h4 y hy)).2,λy hy=>(hg _ (h5 y hy)).2⟩⟩
  constructor
  ·rw [zEF];unfold zl7 zuY;have h1:=z02 (zeZ n) a h.1 (λt ht=>⟨(hsub t ht).1,λf hf=>((hsub t ht).2 f hf).1⟩) (Int.toNat 0+a.length+(Int.ofNat a.length).toNat +Int.toNat 0+1) 0 (by omega)
   rw [show ((0:Nat):Int)=(0:Int) from rfl,Nat.zero_max] at h1
   rw [Wy.fin_bn,show Int.ofNat a.length=(a.length:Int) from rfl] at *
   rw [h1]; rfl
  ·rw [zNs];unfold zsR zBr;have h1:=z0c (ziT n) a h.1 (λt ht=>⟨(hsub t ht).1,λf hf=>((hsub t ht).2 f hf).2⟩) (a.length+Int.toNat 0+Int.toNat 0+1+zdi a) 0 (by omega)
   rw [show ((0:Nat):Int)=(0:Int) from rfl,Nat.zero_max] at h1
   rw [Wy.fin_bn,h1]; rfl
theorem zkx (x y:Int):zc5 x y=(true,zdm x y):=by
 unfold zc5 zBj zoq zE2 zdm;by_cases h1:x<y
 ·simp [h1,Wy.fin_i,Wy.fin_k]
 ·by_cases h2:y<x <;>simp [h1,h2,Wy.fin_i,Wy.fin_k]
theorem zxc (x y:Int):zhg x y=(true,zdm x y):=by
 unfold zhg zxK zkL zBk zdm;by_cases h1:x<y
 ·simp [h1,Wy.fin_i,Wy.fin_k]
 ·by_cases h2:y<x <;>simp [h1,h2,Wy.fin_i,Wy.fin_k]
def zor:List Int->Int
 | []=>0
 | x::r=>if x=0 then zor r else x
theorem zV5 (l:List Int) (hl:l.length<=1000000):∀ (n i:Nat),l.length<i+n->i<=l.length->∃ r,zAZ n 0 l l.length i=(true,r)/\(r=.inl (zor (l.drop i))\/(r=.inr 0/\zor (l.drop i)=0))
 | 0,i,h,h2=>by omega
 | n+1,i,h,h2=>by
  show ∃ r,(zBh 0 l l.length i).ev (λx y=>zAZ n x.1 x.2.1 x.2.2.1 x.2.2.2.1) (λr=>(true,r)) (false,.inl default)=(true,r)/\_
  unfold zBh;by_cases hi:i<l.length
  ·simp only [Wy.ev_i,Wy.ev_k,Wy.ev_h,Int.ofNat_eq_natCast,zmT,zf4,decide_true,decide_false,Bool.and_self,Bool.true_and,Bool.and_true,cond_true,cond_false,Int.toNat_natCast,Bool.not_true,Bool.not_false,hi];obtain ⟨r,h1,h3⟩:=zV5 l hl n (i+1) (by omega) (by omega)
   rw [zbb hi,zbi (by omega),h1]
   generalize l.getD i default=x;by_cases hx:x=0
   ·have e:(x != 0)=false:=by simp [hx]
    simp only [e,cond_false,zor,hx,if_true];exact ⟨r,rfl,h3⟩
   ·have e:(x != 0)=true:=by simp [hx]
    simp only [e,cond_true,zor,hx,if_false];exact ⟨_,rfl,.inl rfl⟩
  ·simp only [Wy.ev_i,Wy.ev_k,Wy.ev_h,Int.ofNat_eq_natCast,zmT,zf4,decide_true,decide_false,Bool.and_self,Bool.true_and,Bool.and_true,cond_true,cond_false,Int.toNat_natCast,Bool.not_true,Bool.not_false,hi,zdA hi];exact ⟨_,rfl,.inr ⟨rfl,rfl⟩⟩
theorem zoo (l:List Int) (hl:l.length<=1000000):zjX l=(true,zor l):=by
 unfold zjX zNw;obtain ⟨r,h1,h2⟩:=zV5 l hl (Int.toNat 0+l.length+(Int.ofNat l.length).toNat +Int.toNat 0+1) 0 (by simp; omega) (by omega)
 rw [show ((0:Nat):Int)=(0:Int) from rfl] at h1
 rw [Wy.fin_bn,show Int.ofNat l.length=(l.length:Int) from rfl] at *
 rw [h1];rw [List.drop_zero] at h2;rcases h2 with rfl | ⟨rfl,h2⟩
 ·rfl
 ·rw [h2]; rfl
section
variable {α:Type}
def zsy (c:α->α->Int):List α->List α->Int
 | [],[]=>0
 | [],_::_=> -1
 | _::_,[]=>1
 | x::a,y::b=>if c x y=0 then zsy c a b else c x y
theorem zFj (e:α->TT) {c:α->α->Int}:∀ (a b:List α),(∀ x∈a,∀ y∈b,c x y=zbL (e x) (e y))->zsy c a b=zbF (a.map e) (b.map e)
 | [],[],_=>by simp only [zsy,List.map,zbF]
 | [],_::_,_=>by simp only [zsy,List.map,zbF]
 | _::_,[],_=>by simp only [zsy,List.map,zbF]
 | x::a,y::b,h=>by
  simp only [zsy,List.map,zbF];rw [h x (by simp) y (by simp),zFj e a b λx hx y hy=>h x (by simp [hx]) y (by simp [hy])]
variable [Inhabited α]
def zTN (g:α->α->Bool×Int) (s1:List α) (s2:List α) (t11:List α) (t12:Int) (t13:Int):Wy (List α×List α×Unit×List α×Int×Int×Unit) Unit (Int⊕(List α×List α)):=.i (decide (t13<t12)) (.i (decide ((0:Int)<=t13)&&decide (t13<Int.ofNat t11.length)) (.i (decide (t13≥Int.ofNat s2.length)) (.k (.inl (1:Int))) (.i (decide ((0:Int)<=t13)&&decide (t13<Int.ofNat s2.length)) (.bn (g (t11.getD t13.toNat default) (s2.getD t13.toNat default)) λr0=>.i (r0 != (0:Int)) (.k (.inl (r0))) (.h (s1,s2,(),t11,t12,(IntKind.i64.wrap (t13+(1:Int))),()) ())) .d)) .d) (.k (.inr (s1,s2)))
def zW3 (g:α->α->Bool×Int) (x:List α×List α×Unit×List α×Int×Int×Unit) (y:Unit):Wy (List α×List α×Unit×List α×Int×Int×Unit) Unit (Int⊕(List α×List α)):=zTN g x.1 x.2.1 x.2.2.2.1 x.2.2.2.2.1 x.2.2.2.2.2.1
def zWl (g:α->α->Bool×Int) (n:Nat) (s1:List α) (s2:List α) (t11:List α) (t12:Int) (t13:Int):Bool×(Int⊕(List α×List α)):=zN (zW3 g) (.inl default) n (s1,s2,(),t11,t12,t13,()) ()
def CF (g:α->α->Bool×Int) (s1 s2:List α):Bool×Int:=(.bn (zWl g (s1.length+s2.length+s1.length+(Int.ofNat s1.length).toNat +Int.toNat (0:Int)+(1:Nat)) s1 s2 s1 (Int.ofNat s1.length) (0:Int)) λr2=>.i (isL r2) (.k (getL r2)) (.i (decide (Int.ofNat (getR r2).fst.length<Int.ofNat (getR r2).snd.length)) (.k (-1:Int)) (.k (0:Int))):Wy0 Int).fin default
theorem zV1 (g:α->α->Bool×Int) (c:α->α->Int) (a b:List α) (ha:a.length<=1000000) (hg:∀ x∈a,∀ y∈b,g x y=(true,c x y)):∀ (n i:Nat),a.length<i+n->i<=a.length->i<=b.length->
  ∃ r,zWl g n a b a a.length i=(true,r)/\((r=.inl (zsy c (a.drop i) (b.drop i)))\/(r=.inr (a,b)/\zsy c (a.drop i) (b.drop i)=if a.length<b.length then -1 else 0))
 | 0,i,h,h2,h3=>by omega
 | n+1,i,h,h2,h3=>by
  show ∃ r,(zTN g a b a a.length i).ev (λx y=>zWl g n x.1 x.2.1 x.2.2.2.1 x.2.2.2.2.1 x.2.2.2.2.2.1) (λr=>(true,r)) (false,.inl default)=(true,r)/\_
  unfold zTN;by_cases hi:i<a.length
  ·by_cases hi':i<b.length
   ·have hg':¬ b.length<=i:=by omega
    simp only [Wy.ev_i,Wy.ev_k,Wy.ev_h,Wy.ev_bn,Wy.ev_d,Int.ofNat_eq_natCast,zmT,zf4,decide_true,decide_false,Bool.and_self,Bool.true_and,Bool.and_true,cond_true,cond_false,Int.toNat_natCast,Bool.not_true,Bool.not_false,hi,hi',zXI,hg',hg _ (zX hi) _ (zX hi')];rw [zbb hi,zbb hi',zbi (by omega)]
    simp only [zsy];generalize c (a.getD i default) (b.getD i default)=z;by_cases hx:z=0
    ·have e:(z != 0)=false:=by simp [hx]
     simp only [e,cond_false,hx,if_true];exact zV1 g c a b ha hg n (i+1) (by omega) (by omega) (by omega)
    ·have e:(z != 0)=true:=by simp [hx]
     simp only [e,cond_true,hx,if_false];exact ⟨_,rfl,.inl rfl⟩
   ·have hg':b.length<=i:=by omega
    simp only [Wy.ev_i,Wy.ev_k,Wy.ev_h,Wy.ev_bn,Wy.ev_d,Int.ofNat_eq_natCast,zmT,zf4,decide_true,decide_false,Bool.and_self,Bool.true_and,Bool.and_true,cond_true,cond_false,Int.toNat_natCast,Bool.not_true,Bool.not_false,hi,zXI,hg'];refine ⟨_,rfl,.inl ?_⟩;rw [zbb hi,zdA hi']; rfl
  ·simp only [Wy.ev_i,Wy.ev_k,Wy.ev_h,Wy.ev_bn,Wy.ev_d,Int.ofNat_eq_natCast,zmT,zf4,decide_true,decide_false,Bool.and_self,Bool.true_and,Bool.and_true,cond_true,cond_false,Int.toNat_natCast,Bool.not_true,Bool.not_false,hi];refine ⟨_,rfl,.inr ⟨rfl, ?_⟩⟩;rw [zdA hi];by_cases hi':i<b.length
   ·rw [zbb hi',if_pos (by omega)]; rfl
   ·rw [zdA hi',if_neg (by omega)]; rfl
theorem z1c (g:α->α->Bool×Int) (c:α->α->Int) (a b:List α) (ha:a.length<=1000000) (hg:∀ x∈a,∀ y∈b,g x y=(true,c x y)):CF g a b=(true,zsy c a b):=by
 unfold CF;obtain ⟨r,h1,h2⟩:=zV1 g c a b ha hg (a.length+b.length+a.length+(Int.ofNat a.length).toNat +Int.toNat 0+1) 0 (by simp; omega) (by omega) (by omega)
 rw [show ((0:Nat):Int)=(0:Int) from rfl] at h1
 rw [Wy.fin_bn,show Int.ofNat a.length=(a.length:Int) from rfl] at *
 rw [h1];simp only [List.drop_zero] at h2;rcases h2 with rfl | ⟨rfl,h2⟩
 ·rfl
 ·rw [h2];simp only [Wy.fin_i,Wy.fin_k,Int.ofNat_eq_natCast,zmT,zf4,decide_true,decide_false,Bool.and_self,Bool.true_and,Bool.and_true,cond_true,cond_false,Int.toNat_natCast,Bool.not_true,Bool.not_false,isL,getR];by_cases h3:a.length<b.length <;>simp [h3]
end
theorem zNC {α:Type} [Inhabited α] (e:α->TT) (g:α->α->Bool×Int) (a b:List α) (ha:a.length<=1000000) (hg:∀ x∈a,∀ y∈b,g x y=(true,zbL (e x) (e y))):CF g a b=(true,zbF (a.map e) (b.map e)):=by
 rw [z1c g (λx y=>zbL (e x) (e y)) a b ha hg,zFj e a b λ_ _ _ _=>rfl]
theorem Fc.eta2 (x:Fc):(FO.mk (At.mk x.At.Kind x.At.Row x.At.Ag x.At.Func x.At.Items x.At.Op x.At.Bd) x.Exp:Fc)=x:=by rw [At.eta]
theorem zYu (g):zbB g=CF g:=rfl
theorem zWt (g):zbl g=CF g:=by
 have h:zbz g=zW3 g:=by
  funext x y
  unfold zbz zdb zW3 zTN;rw [Fc.eta2,Fc.eta2]
 funext a b
 unfold zbl zdj zdd;rw [h]; rfl
theorem zZ6 (g):zbg g=CF g:=rfl
theorem zYF (g):zbu g=CF g:=rfl
theorem zDS (a b:Value):zop a b=(true,zbL (trV a) (trV b)):=by
 unfold zop zEY;have h:(strings_Compare a.Text b.Text).2=zbL (trB a.Text) (trB b.Text):=by rw [<- zVO]; rfl
 simp only [zkx,zxc,Wy.fin_bn,cond_true,h];rw [zoo _ (by simp)]
 simp only [Wy.fin_k,cond_true,trV,zbL,zbF,zor];rfl
theorem zGL:∀ n,
  (∀ d a b,zP d a->10*d<=n->ze3 n a b=(true,zbF (zcN a) (zcN b)))/\
  (∀ d a b,zP d a->10*d<=n+1->zbD n a b=(true,zbF (zcN a) (zcN b)))/\
  (∀ d x y,zhF (zP d) x.Fs->10*d+10<=n+2->zg6 n x y=(true,zbL (ztu x) (ztu y)))/\
  (∀ d x y,zhF (zP d) x.Fs->10*d+10<=n+3->zfG n x y=(true,zbF (zbZ x.Fs) (zbZ y.Fs)))/\
  (∀ d l l',zhF (zP d) l->10*d+10<=n+4->zbH n l l'=(true,zbF (zbZ l) (zbZ l')))/\
  (∀ d x y,zhd (zP d) x.At->10*d+10<=n+5->zeJ n x y=(true,zbL (zmO x) (zmO y)))/\
  (∀ d x y,zhd (zP d) x->10*d+10<=n+6->zfE n x y=(true,zbL (zfH x) (zfH y)))/\
  (∀ d a b,a.length<=1000000->(∀ x∈a,zP d x)->10*d+10<=n+7->zbe n a b=(true,zbF (zrV a) (zrV b)))/\
  (∀ d a b,a.length<=1000000->(∀ x∈a,zP d x.Ann)->10*d+10<=n+7->zbt n a b=(true,zbF (zfW a) (zfW b)))/\
  (∀ d x y,zP d x.Ann->10*d+10<=n+8->zd6 n x y=(true,zbL (zfc x) (zfc y)))
 | 0=>by
  refine ⟨?_, ?_, ?_, ?_, ?_, ?_, ?_, ?_, ?_, ?_⟩
  ·intro d a b h hd; have:d=0:=by omega
   subst this; exact h.elim
  ·intro d a b h hd; have:d=0:=by omega
   subst this; exact h.elim
  all_goals (intros; omega)
 | n+1=>by
  obtain ⟨h1,h2,h3,h4,h5,h6,h7,h8,h9,h10⟩:=zGL n;refine ⟨?_, ?_, ?_, ?_, ?_, ?_, ?_, ?_, ?_, ?_⟩
  ·intro d a b h hd;rw [zEv];unfold zlS zu8;rw [Wy.fin_bn,h2 d a b h (by omega)]; rfl
  ·intro d a b h hd;cases d with
   | zero=>exact h.elim
   | succ d=>
    rw [zgx,zYu,zzo,zzo];exact zNC ztu _ a b h.1 λx hx y hy=>h3 d x y (h.2 x hx) (by omega)
  ·intro d x y h hd;rw [zAz];unfold zjq zsW;rw [Wy.fin_bn,h4 d x y h (by omega)]
   simp only [cond_true,Wy.fin_bn,zxc];rw [zoo _ (by simp)]
   obtain ⟨c,l⟩:=x; obtain ⟨c',l'⟩:=y;simp only [cond_true,Wy.fin_k,zor,ztu,zbL,zbF];rfl
  ·intro d x y h hd;rw [zx3];unfold zif zqY;rw [Wy.fin_bn,h5 d _ _ h (by omega)]; rfl
  ·intro d l l' h hd;rw [zg2,zWt,zrP,zrP];exact zNC zmO _ l l' h.1 λx hx y hy=>h6 d x y (h.2 x hx) (by omega)
  ·intro d x y h hd;rw [zwt];unfold zhp zpw;rw [At.eta,At.eta,Wy.fin_bn,h7 d _ _ h (by omega)]
   simp only [cond_true,Wy.fin_bn,zkx];rw [zoo _ (by simp)]
   obtain ⟨c,l⟩:=x; obtain ⟨c',l'⟩:=y;simp only [cond_true,Wy.fin_k,zor,zmO,zbL,zbF];rfl
  ·intro d x y h hd;rw [zyq];unfold zis zqQ;simp only [cond_true,Wy.fin_bn,zkx,zDS,h8 d x.Ag y.Ag h.1.1 h.2.1 (by omega),h9 d x.Items y.Items h.1.2.1 (λw hw=>(h.2.2 w hw).2) (by omega)]
   rw [zoo _ (by simp)]
   obtain ⟨k,r,a,f,i,o,v⟩:=x; obtain ⟨k',r',a',f',i',o',v'⟩:=y;simp only [cond_true,Wy.fin_k,zor,zfH,zbL,zbF];rfl
  ·intro d a b h0 h hd;rw [zeh,zZ6,zwM,zwM];exact zNC (λx=>TT.l (zcN x)) _ a b h0 λx hx y hy=>by rw [h1 d x y (h x hx) (by omega)]; simp only [zbL]
  ·intro d a b h0 h hd;rw [zfh,zYF,zpk,zpk];exact zNC zfc _ a b h0 λx hx y hy=>h10 d x y (h x hx) (by omega)
  ·intro d x y h hd;rw [zyt];unfold ziq zqZ;simp only [cond_true,Wy.fin_bn,zDS,h1 d _ _ h (by omega)]
   rw [zoo _ (by simp)]
   obtain ⟨c,l⟩:=x; obtain ⟨c',l'⟩:=y;simp only [cond_true,Wy.fin_k,zor,zfc,zbL,zbF];rfl
theorem zHo {d:Nat} {a:yB} (h:zP d a) (hd:d<=100) (b:yB):ztg a b=(true,zbF (zcN a) (zcN b)):=(zGL 1000).1 d a b h (by omega)
theorem zAY {d:Nat} {x:Term} (h:zhF (zP d) x.Fs) (hd:d<=99) (y:Term):zb1 x y=(true,zbF (zbZ x.Fs) (zbZ y.Fs)):=(zGL 1000).2.2.2.1 d x y h (by omega)
theorem zAH {d:Nat} {x:At} (h:zhd (zP d) x) (hd:d<=99) (y:At):zg9 x y=(true,zbL (zfH x) (zfH y)):=(zGL 1000).2.2.2.2.2.2.1 d x y h (by omega)
theorem zA6 {d:Nat} {x:Wd} (h:zP d x.Ann) (hd:d<=99) (y:Wd):zbw x y=(true,zbL (zfc x) (zfc y)):=(zGL 1000).2.2.2.2.2.2.2.2.2 d x y h (by omega)
theorem zK7 {d:Nat} {a:yB} (h:zP d a) (hd:d<=100) (b:yB):zhW a b=(true,decide (a=b)):=by
 unfold zhW zAk;rw [Wy.fin_bn,zHo h hd];simp only [cond_true,Wy.fin_k];congr 1;by_cases e:a=b
 ·subst e; rw [zMn]; simp
 ·have:zbF (zcN a) (zcN b)≠0:=λh=>e (zAj _ _ (zNy _ _ h))
  simp [e,this]
theorem zO3 (s:ByteArray):∀ (n i:Nat) (r:List UInt8),s.size<=i+n->ByteArray.toList.loop s i r=r.reverse++s.data.toList.drop i
 | 0,i,r,h=>by
  rw [ByteArray.toList.loop,if_neg (by omega),List.drop_eq_nil_of_le (by rw [<- Lib.size_eq]; omega),List.append_nil]
 | n+1,i,r,h=>by
  rw [ByteArray.toList.loop];by_cases hi:i<s.size
  ·have hi':i<s.data.toList.length:=by rw [<- Lib.size_eq]; exact hi
   rw [if_pos hi,zO3 s n (i+1) _ (by omega),List.drop_eq_getElem_cons hi',List.reverse_cons,List.append_assoc]
   congr 1
   have:s.get! i=s.data.toList[i]:=by
    have h':i<s.data.size:=hi;show s.data[i]! =s.data.toList[i];rw [getElem!_pos s.data i h']; rfl
   rw [this]; rfl
  ·rw [if_neg hi,List.drop_eq_nil_of_le (by rw [<- Lib.size_eq]; omega),List.append_nil]
theorem toList_eq (s:ByteArray):s.toList=s.data.toList:=by
 rw [ByteArray.toList,zO3 s s.size 0 [] (by omega)]; rfl
theorem zzQ {s t:ByteArray} (h:s.data.toList=t.data.toList):s=t:=by
 cases s; cases t;congr 1;exact Array.toList_inj.1 h
theorem zWW (s t:ByteArray):(s.toList==t.toList)=decide (s.data.toList=t.data.toList):=by
 rw [toList_eq,toList_eq];cases hb:(s.data.toList==t.data.toList) with
 | true=>rw [decide_eq_true (beq_iff_eq.1 hb)]
 | false=>rw [decide_eq_false (λh=>by rw [beq_iff_eq.2 h] at hb; cases hb)]
theorem zMB (s t:ByteArray):(s.toList==t.toList)=decide (s=t):=by
 rw [zWW];by_cases h:s=t
 ·rw [decide_eq_true h,decide_eq_true (by rw [h])]
 ·rw [decide_eq_false h,decide_eq_false λe=>h (zzQ e)]
theorem zJW (z w:Int):(z != w)= !decide (z=w):=by by_cases h:z=w <;>simp [h]
theorem zJ4:∀ a b:List UInt8,Op.bytesLess a b=decide (Lib.compareBytes a b<0)
 | [],[]=>by simp [Op.bytesLess,Lib.compareBytes]
 | _::_,[]=>by simp [Op.bytesLess,Lib.compareBytes]
 | [],_::_=>by simp [Op.bytesLess,Lib.compareBytes]
 | x::a,y::b=>by
  simp only [Op.bytesLess,Lib.compareBytes];by_cases p:x<y
  ·simp [p]
  ·by_cases q:y<x
   ·have hne:¬ x=y:=λe=>by subst e; exact p q
    simp [p,q,hne]
   ·have he:x=y:=UInt8.toNat_inj.1 (by rw [UInt8.lt_iff_toNat_lt] at p q; omega)
    subst he;simp [p,zJ4 a b]
theorem zCx (a b:Value):zlm a b=(true,zbL (trV a) (trV b)):=by
 unfold zlm zEV ztX zLQ;rw [zMB,toList_eq,toList_eq,zJ4,zVO];simp only [trV,zbL,zbF,zdm];simp only [Wy.fin_i,Wy.fin_bn,Wy.fin_k,cond_true,zJW];by_cases h1:a.Kind=b.Kind
 ·by_cases h2:a.Int=b.Int
  ·by_cases h3:a.Text=b.Text
   ·simp [h1,h2,h3,zXx]
   ·have h4:zbL (trB a.Text) (trB b.Text)≠0:=λe=>by
     have:=zBe _ _ (TT.l.inj (zGY _ _ e));exact h3 (zzQ this)
    have h5:=zUH (trB a.Text) (trB b.Text);simp only [trB,zbL] at h4 h5;simp only [trB,zbL];rcases h5 with h5 | h5 | h5
    ·simp [h1,h2,h3,h5]
    ·exact absurd h5 h4
    ·simp [h1,h2,h3,h5]
  ·by_cases h3:a.Int<b.Int
   ·simp [h1,h2,h3]
   ·simp [h1,h2,h3,show b.Int<a.Int by omega]
 ·by_cases h3:a.Kind<b.Kind
  ·simp [h1,h3]
  ·simp [h1,h3,show b.Kind<a.Kind by omega]
theorem zo9 (x y:Int):zcB x y=(true,zdm x y):=by
 unfold zcB zH1 zdm;by_cases h1:x<y
 ·simp [h1,Wy.fin_i,Wy.fin_k]
 ·by_cases h2:y<x <;>simp [h1,h2,Wy.fin_i,Wy.fin_k]
theorem zxG (x y:RowID):zhS x y=(true,if zdm x.Table y.Table=0 then zdm x.Seq y.Seq else zdm x.Table y.Table):=by
 unfold zhS zzv;simp only [zo9,Wy.fin_i,Wy.fin_bn,Wy.fin_k,cond_true,zJW];by_cases h:zdm x.Table y.Table=0
 ·simp [h]
 ·simp [h]
section
variable {α:Type} [Inhabited α]
def zTP (p q:α->α->Bool×Int) (a:List α) (b:List α) (i:Int):Wy (List α×List α×Int×Unit) Unit (Int⊕(List α×List α)):=.i (decide (i<Int.ofNat a.length)) (.i (decide (i<Int.ofNat b.length)) (.i (decide ((0:Int)<=i)&&decide (i<Int.ofNat a.length)) (.i (decide ((0:Int)<=i)&&decide (i<Int.ofNat b.length)) (.bn (p (a.getD i.toNat default) (b.getD i.toNat default)) λr1=>.i (r1 != (0:Int)) (.k (.inl (r1))) (.i (decide ((0:Int)<=i)&&decide (i<Int.ofNat a.length)) (.i (decide ((0:Int)<=i)&&decide (i<Int.ofNat b.length)) (.bn (q (a.getD i.toNat default) (b.getD i.toNat default)) λr0=>.i (r0 != (0:Int)) (.k (.inl (r0))) (.h (a,b,(IntKind.i64.wrap (i+(1:Int))),()) ())) .d) .d)) .d) .d) (.k (.inr (a,b)))) (.k (.inr (a,b)))
def zXi (p q:α->α->Bool×Int) (x:List α×List α×Int×Unit) (y:Unit):Wy (List α×List α×Int×Unit) Unit (Int⊕(List α×List α)):=zTP p q x.1 x.2.1 x.2.2.1
def zWC (p q:α->α->Bool×Int) (n:Nat) (a:List α) (b:List α) (i:Int):Bool×(Int⊕(List α×List α)):=zN (zXi p q) (.inl default) n (a,b,i,()) ()
def RG (p q:α->α->Bool×Int) (a b:List α):Bool×Int:=(.bn (zWC p q (a.length+b.length+Int.toNat (0:Int)+(1:Nat)) a b (0:Int)) λr5=>.i (isL r5) (.k (getL r5)) (.bn (zcB (Int.ofNat (getR r5).fst.length) (Int.ofNat (getR r5).snd.length)) λr4=>.k r4):Wy0 Int).fin default
theorem zV6 (p q:α->α->Bool×Int) (c1 c2:α->α->Int) (a b:List α) (ha:a.length<=1000000) (hp:∀ x∈a,∀ y∈b,p x y=(true,c1 x y)) (hq:∀ x∈a,∀ y∈b,q x y=(true,c2 x y)):∀ (n i:Nat),a.length<i+n->i<=a.length->i<=b.length->
  ∃ r,zWC p q n a b i=(true,r)/\((r=.inl (zsy (λx y=>if c1 x y=0 then c2 x y else c1 x y) (a.drop i) (b.drop i)))\/(r=.inr (a,b)/\zsy (λx y=>if c1 x y=0 then c2 x y else c1 x y) (a.drop i) (b.drop i)=zdm a.length b.length))
 | 0,i,h,h2,h3=>by omega
 | n+1,i,h,h2,h3=>by
  show ∃ r,(zTP p q a b i).ev (λx y=>zWC p q n x.1 x.2.1 x.2.2.1) (λr=>(true,r)) (false,.inl default)=(true,r)/\_
  unfold zTP;by_cases hi:i<a.length
  ·by_cases hi':i<b.length
   ·simp only [Wy.ev_i,Wy.ev_k,Wy.ev_h,Wy.ev_bn,Wy.ev_d,tT,hi,hi',hp _ (zX hi) _ (zX hi'),hq _ (zX hi) _ (zX hi')];rw [zbb hi,zbb hi',zbi (by omega)]
    simp only [zsy];generalize c1 (a.getD i default) (b.getD i default)=z1;generalize c2 (a.getD i default) (b.getD i default)=z2;by_cases hx:z1=0
    ·have e:(z1 != 0)=false:=by simp [hx]
     by_cases hx2:z2=0
     ·have e2:(z2 != 0)=false:=by simp [hx2]
      simp only [e,e2,cond_false,hx,hx2,if_true];exact zV6 p q c1 c2 a b ha hp hq n (i+1) (by omega) (by omega) (by omega)
     ·have e2:(z2 != 0)=true:=by simp [hx2]
      simp only [e,e2,cond_false,cond_true,hx,hx2,if_true,if_false];exact ⟨_,rfl,.inl rfl⟩
    ·have e:(z1 != 0)=true:=by simp [hx]
     simp only [e,cond_true,hx,if_false];exact ⟨_,rfl,.inl rfl⟩
   ·simp only [Wy.ev_i,Wy.ev_k,Wy.ev_h,Wy.ev_bn,Wy.ev_d,tT,hi,hi'];refine ⟨_,rfl,.inr ⟨rfl, ?_⟩⟩;rw [zbb hi,zdA hi'];unfold zdm; rw [if_neg (by omega),if_pos (by omega)]; rfl
  ·simp only [Wy.ev_i,Wy.ev_k,Wy.ev_h,Wy.ev_bn,Wy.ev_d,tT,hi];refine ⟨_,rfl,.inr ⟨rfl, ?_⟩⟩;rw [zdA hi];by_cases hi':i<b.length
   ·rw [zbb hi']; unfold zdm; rw [if_pos (by omega)]; rfl
   ·rw [zdA hi']; unfold zdm; rw [if_neg (by omega),if_neg (by omega)]; rfl
theorem z0Z (p q:α->α->Bool×Int) (c1 c2:α->α->Int) (a b:List α) (ha:a.length<=1000000) (hp:∀ x∈a,∀ y∈b,p x y=(true,c1 x y)) (hq:∀ x∈a,∀ y∈b,q x y=(true,c2 x y)):RG p q a b=(true,zsy (λx y=>if c1 x y=0 then c2 x y else c1 x y) a b):=by
 unfold RG;obtain ⟨r,h1,h2⟩:=zV6 p q c1 c2 a b ha hp hq (a.length+b.length+Int.toNat 0+1) 0 (by simp; omega) (by omega) (by omega)
 rw [show ((0:Nat):Int)=(0:Int) from rfl] at h1
 rw [Wy.fin_bn,h1];simp only [List.drop_zero] at h2;rcases h2 with rfl | ⟨rfl,h2⟩
 ·rfl
 ·rw [h2];simp only [Wy.fin_i,Wy.fin_k,Wy.fin_bn,zo9,tT,isL,getR]
end
theorem zR6 {α:Type} [Inhabited α] (e:α->TT) (p q:α->α->Bool×Int) (c1 c2:α->α->Int) (a b:List α) (ha:a.length<=1000000) (hp:∀ x∈a,∀ y∈b,p x y=(true,c1 x y)) (hq:∀ x∈a,∀ y∈b,q x y=(true,c2 x y))
  (hc:∀ x y,(if c1 x y=0 then c2 x y else c1 x y)=zbL (e x) (e y)):RG p q a b=(true,zbF (a.map e) (b.map e)):=by
 rw [z0Z p q c1 c2 a b ha hp hq,zFj e a b λx _ y _=>hc x y]
theorem zY4 (g):zsG g=RG (λx y=>g x.Fs y.Fs) (λx y=>zcB x.Cf y.Cf):=rfl
theorem zWE (g):zhI g=RG (λx y=>g x.At y.At) (λx y=>zcB x.Exp y.Exp):=by
 have h:zig g=zXi (λx y=>g x.At y.At) (λx y=>zcB x.Exp y.Exp):=by
  funext x y
  unfold zig zsP zXi zTP;rw [At.eta,At.eta]
 funext a b
 unfold zhI zta zsQ;rw [h]; rfl
theorem zY0 (g):zl6 g=RG (λx y=>zlm x.Value y.Value) (λx y=>g x.Ann y.Ann):=rfl
theorem zSO (gI) (g:yB->yB->Bool×Int) (a b:At) (ha:a.Ag.length<=1000000) (hg:∀ x∈a.Ag,∀ y∈b.Ag,g x y=(true,zbF (zcN x) (zcN y))):∀ (n i:Nat),a.Ag.length<i+n->i<=a.Ag.length->i<=b.Ag.length->
  ∃ r,zpg gI g n i a b=(true,r)/\((r=.inl (zsy (λx y=>zbF (zcN x) (zcN y)) (a.Ag.drop i) (b.Ag.drop i))/\zsy (λx y=>zbF (zcN x) (zcN y)) (a.Ag.drop i) (b.Ag.drop i)≠0)\/(r=.inr (a,b)/\zsy (λx y=>zbF (zcN x) (zcN y)) (a.Ag.drop i) (b.Ag.drop i)=zdm a.Ag.length b.Ag.length))
 | 0,i,h,h2,h3=>by omega
 | n+1,i,h,h2,h3=>by
  show ∃ r,(zpe gI g i a b).ev (λx y=>zpg gI g n x.2.2.1 y.1 y.2.1) (λr=>(true,r)) (false,.inl default)=(true,r)/\_
  unfold zpe;by_cases hi:i<a.Ag.length
  ·by_cases hi':i<b.Ag.length
   ·simp only [Wy.ev_i,Wy.ev_k,Wy.ev_h,Wy.ev_bn,Wy.ev_d,tT,hi,hi',hg _ (zX hi) _ (zX hi')];rw [zbb hi,zbb hi',zbi (by omega)]
    simp only [zsy];generalize zbF (zcN (a.Ag.getD i default)) (zcN (b.Ag.getD i default))=z1;by_cases hx:z1=0
    ·have e:(z1 != 0)=false:=by simp [hx]
     simp only [e,cond_false,hx,if_true];exact zSO gI g a b ha hg n (i+1) (by omega) (by omega) (by omega)
    ·have e:(z1 != 0)=true:=by simp [hx]
     simp only [e,cond_true,hx,if_false];exact ⟨_,rfl,.inl ⟨rfl,hx⟩⟩
   ·simp only [Wy.ev_i,Wy.ev_k,Wy.ev_h,Wy.ev_bn,Wy.ev_d,tT,hi,hi'];refine ⟨_,rfl,.inr ⟨rfl, ?_⟩⟩;rw [zbb hi,zdA hi'];unfold zdm; rw [if_neg (by omega),if_pos (by omega)]; rfl
  ·simp only [Wy.ev_i,Wy.ev_k,Wy.ev_h,Wy.ev_bn,Wy.ev_d,tT,hi];refine ⟨_,rfl,.inr ⟨rfl, ?_⟩⟩;rw [zdA hi];by_cases hi':i<b.Ag.length
   ·rw [zbb hi']; unfold zdm; rw [if_pos (by omega)]; rfl
   ·rw [zdA hi']; unfold zdm; rw [if_neg (by omega),if_neg (by omega)]; rfl
theorem zZ9 (gI) (g:yB->yB->Bool×Int) (x y:At) (ha:x.Ag.length<=1000000) (hg:∀ a∈x.Ag,∀ b∈y.Ag,g a b=(true,zbF (zcN a) (zcN b)))
  (hI:gI x.Items y.Items=(true,zbF (zfW x.Items) (zfW y.Items))):zjz gI g x y=(true,zbL (zfH x) (zfH y)):=by
 unfold zjz zv2;rw [At.eta,At.eta];obtain ⟨r,h1,h2⟩:=zSO gI g x y ha hg (Int.toNat 0+1+x.Ag.length+x.Items.length+y.Ag.length+y.Items.length) 0 (by omega) (by omega) (by omega)
 rw [show ((0:Nat):Int)=(0:Int) from rfl] at h1
 simp only [List.drop_zero] at h2;rw [zFj (λa=>TT.l (zcN a)) x.Ag y.Ag (λa _ b _=>by simp only [zbL]), <- zwM, <- zwM] at h2
 simp only [zo9,zxG,Wy.fin_bn,Wy.fin_i,Wy.fin_k,cond_true,h1];obtain ⟨k,r0,a,f,i,o,v⟩:=x; obtain ⟨k',r',a',f',i',o',v'⟩:=y;simp only [zfH,zbL,zbF,zJW] at *;by_cases e1:zdm k k'=0
 rotate_left
 ·simp [e1]
 by_cases e2:zdm r0.Table r'.Table=0
 rotate_left
 ·simp [e1,e2]
 by_cases e3:zdm r0.Seq r'.Seq=0
 rotate_left
 ·simp [e1,e2,e3]
 rcases h2 with ⟨rfl,h2⟩ | ⟨rfl,h2⟩
 ·simp [e1,e2,e3,h2,isL,getL]
 simp only [e1,e2,e3,h2,isL,getR,tT,hI,if_true];by_cases e4:zdm (a.length:Int) (a'.length:Int)=0
 rotate_left
 ·simp [e4]
 by_cases e5:zdm f f'=0
 rotate_left
 ·simp [e4,e5]
 by_cases e6:zbF (zfW i) (zfW i')=0
 rotate_left
 ·simp [e4,e5,e6]
 by_cases e7:zdm o o'=0
 rotate_left
 ·simp [e4,e5,e6,e7]
 simp [e4,e5,e6,e7,zCx]
theorem zCS:∀ n,
  (∀ d a b,zP d a->10*d<=n->zkK n a b=(true,zbF (zcN a) (zcN b)))/\
  (∀ d l l',zhF (zP d) l->10*d+10<=n+1->zhG n l l'=(true,zbF (zbZ l) (zbZ l')))/\
  (∀ d x y,zhd (zP d) x->10*d+10<=n+2->zjI n x y=(true,zbL (zfH x) (zfH y)))/\
  (∀ d a b,a.length<=1000000->(∀ x∈a,zP d x.Ann)->10*d+10<=n+3->ziC n a b=(true,zbF (zfW a) (zfW b)))
 | 0=>by
  refine ⟨?_, ?_, ?_, ?_⟩
  ·intro d a b h hd; have:d=0:=by omega
   subst this; exact h.elim
  all_goals (intros; omega)
 | n+1=>by
  obtain ⟨h1,h2,h3,h4⟩:=zCS n;refine ⟨?_, ?_, ?_, ?_⟩
  ·intro d a b h hd;cases d with
   | zero=>exact h.elim
   | succ d=>
    rw [zMS,zY4,zzo,zzo]
    exact zR6 ztu _ _ (λx y=>zbF (zbZ x.Fs) (zbZ y.Fs)) (λx y=>zdm x.Cf y.Cf) a b h.1 (λx hx y hy=>h2 d _ _ (h.2 x hx) (by omega)) (λx _ y _=>zo9 _ _) λx y=>by
     obtain ⟨c,l⟩:=x; obtain ⟨c',l'⟩:=y;simp only [ztu,zbL,zbF];by_cases e:zdm c c'=0 <;>simp [e]
  ·intro d l l' h hd;rw [zCa,zWE,zrP,zrP]
   exact zR6 zmO _ _ (λx y=>zbL (zfH x.At) (zfH y.At)) (λx y=>zdm x.Exp y.Exp) l l' h.1 (λx hx y hy=>h3 d _ _ (h.2 x hx) (by omega)) (λx _ y _=>zo9 _ _) λx y=>by
    obtain ⟨c,l⟩:=x; obtain ⟨c',l'⟩:=y;simp only [zmO,zbL,zbF];by_cases e:zdm l l'=0 <;>simp [e]
  ·intro d x y h hd;rw [zFM];exact zZ9 _ _ x y h.1.1 (λa ha b _=>h1 d a b (h.2.1 a ha) (by omega)) (h4 d _ _ h.1.2.1 (λw hw=>(h.2.2 w hw).2) (by omega))
  ·intro d a b h0 h hd;rw [zEi,zY0,zpk,zpk]
   exact zR6 zfc _ _ (λx y=>zbL (trV x.Value) (trV y.Value)) (λx y=>zbF (zcN x.Ann) (zcN y.Ann)) a b h0 (λx _ y _=>zCx _ _) (λx hx y _=>h1 d _ _ (h x hx) (by omega)) λx y=>by
    obtain ⟨c,l⟩:=x; obtain ⟨c',l'⟩:=y;simp only [zfc,zbL,zbF];by_cases e:zbF (zcN l) (zcN l')=0 <;>simp [e]
theorem zPo {d:Nat} {a:yB} (h:zP d a) (hd:d<=100) (b:yB):zBi a b=(true,zbF (zcN a) (zcN b)):=(zCS 1000).1 d a b h (by omega)
theorem zD4 {d:Nat} {l:yC} (h:zhF (zP d) l) (hd:d<=99) (l':yC):zrx l l'=(true,zbF (zbZ l) (zbZ l')):=(zCS 1000).2.1 d l l' h (by omega)
theorem zI1 {d:Nat} {x:At} (h:zhd (zP d) x) (hd:d<=99) (y:At):zpC x y=(true,zbL (zfH x) (zfH y)):=(zCS 1000).2.2.1 d x y h (by omega)
theorem zGX {d:Nat} {a:yD} (h0:a.length<=1000000) (h:∀ x∈a,zP d x.Ann) (hd:d<=99) (b:yD):ztH a b=(true,zbF (zfW a) (zfW b)):=(zCS 1000).2.2.2 d a b h0 h (by omega)
theorem zKo {d:Nat} {a:yB} (h:zP d a) (hd:d<=100) (b:yB):zq3 a b=(true,decide (a=b)):=by
 unfold zq3 zL9;rw [Wy.fin_bn,zPo h hd];simp only [cond_true,Wy.fin_k];congr 1;by_cases e:a=b
 ·subst e; rw [zMn]; simp
 ·have:zbF (zcN a) (zcN b)≠0:=λh=>e (zAj _ _ (zNy _ _ h))
  simp [e,this]
def zjm (c:Nat->Bool):Nat->Nat->Bool
 | 0,_=>true
 | n+1,i=>c i&&zjm c n (i+1)
theorem zCN {c:Nat->Bool}:∀ {n i},zjm c n i=true↔∀ k,i<=k->k<i+n->c k=true
 | 0,i=>⟨λ_ k h1 h2=>by omega,λ_=>rfl⟩
 | n+1,i=>by
  simp only [zjm,qc,zCN (n:=n)];constructor
  ·rintro ⟨h1,h2⟩ k h3 h4
   by_cases e:k=i
   ·rw [e]; exact h1
   ·exact h2 k (by omega) (by omega)
  ·intro h;exact ⟨h i (by omega) (by omega),λk h1 h2=>h k (by omega) (by omega)⟩
theorem zU2 (c c':Nat->Bool):∀ n i,zjm (λk=>c k&&c' k) n i=(zjm c n i&&zjm c' n i)
 | 0,_=>rfl
 | n+1,i=>by
  simp only [zjm,zU2 c c' n (i+1)];cases c i <;>cases c' i <;>simp
theorem zVl {τ:Type} [Inhabited τ] (p:τ->Bool) (l:List τ):∀ n i,i+n=l.length->zjm (λk=>p (l.getD k default)) n i=(l.drop i).all p
 | 0,i,h=>by rw [zdA (by omega)]; rfl
 | n+1,i,h=>by
  rw [zbb (by omega),List.all_cons]
  simp only [zjm,zVl p l n (i+1) (by omega)]
theorem zvT {τ:Type} [Inhabited τ] (p:τ->Bool) (l:List τ):zjm (λk=>p (l.getD k default)) l.length 0=l.all p:=by
 rw [zVl p l _ _ (by omega),List.drop_zero]
section
variable {α β ρ:Type}
theorem zUa {W:α->β->Wy α β ρ} {z:ρ} (N:Nat) (ex:Nat->α) (ey:Nat->β) (c:Nat->Bool) (no yes:ρ)
  (h:∀ i,i<N->∀ (H:α->β->Bool×ρ) K D,(W (ex i) (ey i)).ev H K D=bif c i then H (ex (i+1)) (ey (i+1)) else K no)
  (he:∀ (H:α->β->Bool×ρ) K D,(W (ex N) (ey N)).ev H K D=K yes):
  ∀ n i,N<i+n->i<=N->zN W z n (ex i) (ey i)=(true,bif zjm c (N - i) i then yes else no)
 | 0,i,h1,h2=>by omega
 | n+1,i,h1,h2=>by
  show (W (ex i) (ey i)).ev (zN W z n) (λr=>(true,r)) (false,z)=_
  by_cases hi:i<N
  ·rw [h i hi,show N - i=(N - (i+1))+1 by omega]
   simp only [zjm];cases c i with
   | false=>rfl
   | true=>rw [cond_true,zUa N ex ey c no yes h he n (i+1) (by omega) (by omega)]; rfl
  ·have:i=N:=by omega
   subst this;rw [he,Nat.sub_self]; rfl
theorem zmm {W:α->β->Wy α β ρ} {z:ρ} (N:Nat) (ex:Nat->α) (ey:Nat->β) (c:Nat->Bool) (no yes:ρ)
  (h:∀ i,i<N->∀ (H:α->β->Bool×ρ) K D,(W (ex i) (ey i)).ev H K D=bif c i then H (ex (i+1)) (ey (i+1)) else K no)
  (he:∀ (H:α->β->Bool×ρ) K D,(W (ex N) (ey N)).ev H K D=K yes) (n:Nat) (hn:N<n):zN W z n (ex 0) (ey 0)=(true,bif zjm c N 0 then yes else no):=by
 have:=zUa (z:=z) N ex ey c no yes h he n 0 (by omega) (by omega)
 simpa using this
end
def ixf {α:Type} (p:α->Bool):List α->Nat->Int
 | [],_=> -1
 | x::r,i=>bif p x then (i:Int) else ixf p r (i+1)
theorem zWf {α:Type} (p:α->Bool):∀ (l:List α) (i:Nat),decide (ixf p l i≥(0:Int))=l.any p
 | [],i=>by simp [ixf]
 | x::r,i=>by
  rw [List.any_cons];cases h:p x with
  | true=>simp [ixf,h]
  | false=>simpa [ixf,h] using zWf p r (i+1)
section
variable {α γ:Type} [Inhabited α]
def zTK (p:γ->α->Bool×Bool) (s:List α) (g:γ) (t7:Int) (t8:Int):Wy (List α×γ×Int×Int×Unit) Unit (Int⊕Unit):=.i (decide (t8<t7)) (.i (decide ((0:Int)<=t8)&&decide (t8<Int.ofNat s.length)) (.bn (p g (s.getD t8.toNat default)) λr0=>.i (r0) (.k (.inl t8)) (.h (s,g,t7,(IntKind.i64.wrap (t8+(1:Int))),()) ())) .d) (.k (.inr ()))
def zWM (p:γ->α->Bool×Bool) (x:List α×γ×Int×Int×Unit) (y:Unit):Wy (List α×γ×Int×Int×Unit) Unit (Int⊕Unit):=zTK p x.1 x.2.1 x.2.2.1 x.2.2.2.1
def zWn (p:γ->α->Bool×Bool) (n:Nat) (s:List α) (g:γ) (t7:Int) (t8:Int):Bool×(Int⊕Unit):=zN (zWM p) (.inl default) n (s,g,t7,t8,()) ()
def IG (p:γ->α->Bool×Bool) (n:Nat) (g:γ) (s:List α):Bool×Int:=(.bn (zWn p n s g (Int.ofNat s.length) (0:Int)) λr2=>.i (isL r2) (.k (getL r2)) (.k (-1:Int)):Wy0 Int).fin default
def zW1 (p:γ->α->Bool×Bool) (s:List α) (g:γ) (t7:Int) (t8:Int):Wy (List α×γ×Int×Int×Unit) Unit (Int⊕Unit):=.i (decide (t8<t7)) (.i (decide ((0:Int)<=t8)&&decide (t8<Int.ofNat s.length)) (.i ((p g (s.getD t8.toNat default)).snd) (.k (.inl t8)) (.h (s,g,t7,(IntKind.i64.wrap (t8+(1:Int))),()) ())) .d) (.k (.inr ()))
def z01 (p:γ->α->Bool×Bool) (x:List α×γ×Int×Int×Unit) (y:Unit):Wy (List α×γ×Int×Int×Unit) Unit (Int⊕Unit):=zW1 p x.1 x.2.1 x.2.2.1 x.2.2.2.1
def zWN (p:γ->α->Bool×Bool) (n:Nat) (s:List α) (g:γ) (t7:Int) (t8:Int):Bool×(Int⊕Unit):=zN (z01 p) (.inl default) n (s,g,t7,t8,()) ()
def IH (p:γ->α->Bool×Bool) (n:Nat) (g:γ) (s:List α):Bool×Int:=(.bn (zWN p n s g (Int.ofNat s.length) (0:Int)) λr2=>.i (isL r2) (.k (getL r2)) (.k (-1:Int)):Wy0 Int).fin default
theorem zV3 (p:γ->α->Bool×Bool) (P:α->Bool) (g:γ) (s:List α) (hs:s.length<=1000000000) (hp:∀ x∈s,p g x=(true,P x)):∀ (n i:Nat),s.length<i+n->i<=s.length->
  ∃ r,zWn p n s g s.length i=(true,r)/\((r=.inl (ixf P (s.drop i) i))\/(r=.inr ()/\ixf P (s.drop i) i= -1))
 | 0,i,h,h2=>by omega
 | n+1,i,h,h2=>by
  show ∃ r,(zTK p s g s.length i).ev (λx y=>zWn p n x.1 x.2.1 x.2.2.1 x.2.2.2.1) (λr=>(true,r)) (false,.inl default)=(true,r)/\_
  unfold zTK;by_cases hi:i<s.length
  ·simp only [Wy.ev_i,Wy.ev_k,Wy.ev_h,Wy.ev_bn,Wy.ev_d,tT,hi,hp _ (zX hi)];rw [zbb hi,zbi (by omega)]
   simp only [ixf];cases P (s.getD i default) with
   | true=>exact ⟨_,rfl,.inl rfl⟩
   | false=>exact zV3 p P g s hs hp n (i+1) (by omega) (by omega)
  ·simp only [Wy.ev_i,Wy.ev_k,Wy.ev_h,Wy.ev_bn,Wy.ev_d,tT,hi,zdA hi];exact ⟨_,rfl,.inr ⟨rfl,rfl⟩⟩
theorem zRg (p:γ->α->Bool×Bool) (P:α->Bool) (n:Nat) (g:γ) (s:List α) (hs:s.length<=1000000000) (hp:∀ x∈s,p g x=(true,P x)) (hn:s.length<n):IG p n g s=(true,ixf P s 0):=by
 unfold IG;obtain ⟨r,h1,h2⟩:=zV3 p P g s hs hp n 0 (by omega) (by omega)
 rw [show ((0:Nat):Int)=(0:Int) from rfl] at h1
 rw [Wy.fin_bn,show Int.ofNat s.length=(s.length:Int) from rfl,h1]
 rw [List.drop_zero] at h2;rcases h2 with rfl | ⟨rfl,h2⟩
 ·rfl
 ·rw [h2]; rfl
theorem zV7 (p:γ->α->Bool×Bool) (P:α->Bool) (g:γ) (s:List α) (hs:s.length<=1000000000) (hp:∀ x∈s,p g x=(true,P x)):∀ (n i:Nat),s.length<i+n->i<=s.length->
  ∃ r,zWN p n s g s.length i=(true,r)/\((r=.inl (ixf P (s.drop i) i))\/(r=.inr ()/\ixf P (s.drop i) i= -1))
 | 0,i,h,h2=>by omega
 | n+1,i,h,h2=>by
  show ∃ r,(zW1 p s g s.length i).ev (λx y=>zWN p n x.1 x.2.1 x.2.2.1 x.2.2.2.1) (λr=>(true,r)) (false,.inl default)=(true,r)/\_
  unfold zW1;by_cases hi:i<s.length
  ·simp only [Wy.ev_i,Wy.ev_k,Wy.ev_h,Wy.ev_bn,Wy.ev_d,tT,hi,hp _ (zX hi)];rw [zbb hi,zbi (by omega)]
   simp only [ixf];cases P (s.getD i default) with
   | true=>exact ⟨_,rfl,.inl rfl⟩
   | false=>exact zV7 p P g s hs hp n (i+1) (by omega) (by omega)
  ·simp only [Wy.ev_i,Wy.ev_k,Wy.ev_h,Wy.ev_bn,Wy.ev_d,tT,hi,zdA hi];exact ⟨_,rfl,.inr ⟨rfl,rfl⟩⟩
theorem z1g (p:γ->α->Bool×Bool) (P:α->Bool) (n:Nat) (g:γ) (s:List α) (hs:s.length<=1000000000) (hp:∀ x∈s,p g x=(true,P x)) (hn:s.length<n):IH p n g s=(true,ixf P s 0):=by
 unfold IH;obtain ⟨r,h1,h2⟩:=zV7 p P g s hs hp n 0 (by omega) (by omega)
 rw [show ((0:Nat):Int)=(0:Int) from rfl] at h1
 rw [Wy.fin_bn,show Int.ofNat s.length=(s.length:Int) from rfl,h1]
 rw [List.drop_zero] at h2;rcases h2 with rfl | ⟨rfl,h2⟩
 ·rfl
 ·rw [h2]; rfl
theorem zsg {α:Type} {s:List α} {P:α->Bool} {q:Bool×Int} (h:q=(true,ixf P s 0)):((.bn q λr0=>.k (decide (r0≥(0:Int))):Wy0 Bool).fin default)=(true,s.any P):=by
 rw [h,Wy.fin_bn,cond_true,Wy.fin_k,zWf]
end
theorem zpc (a b:Int):(a==b)=decide (a=b):=by by_cases h:a=b <;>simp [h]
theorem zUc (a b:Nat):(a==b)=decide (a=b):=by by_cases h:a=b <;>simp [h]
theorem i0 (l:Nat):((l:Int)==0)=(l==0):=by
 rw [zpc,zUc]; congr 1; simp
def zyP (a:yB):Bool:=a.any λt=>t.Fs.length==0
theorem zRL (a:yB) (h:a.length<=1000000000):zd3 a=(true,zyP a):=by
 unfold zd3 ztz zcI zgq;have:zc1 a=IH (λ(_:Unit) x=>zfL x) (a.length+(Int.ofNat a.length).toNat +Int.toNat (0:Int)+(1:Nat)) () a:=rfl
 rw [zsg (P:=λt:Term=>t.Fs.length==0) (this.trans (z1g _ _ _ _ _ h (λx _=>by
  unfold zfL zqL;rw [Wy.fin_k];congr 1;exact i0 x.Fs.length) (by omega)))]
 rfl
theorem zOc (a:yB) (h:a.length<=1000000000):zjM a=(true,zyP a):=by
 unfold zjM zDm zBp
 have:=zmm (W:=zur) (z:=.inl default) a.length (λi=>(a,(i:Int),())) (λ_=>()) (λi=> !((a.getD i default).Fs.length==0)) (.inl true) (.inr ())
  (λi hi H K D=>by
   show (zls a i).ev H K D=_;unfold zls;simp only [Wy.ev_i,Wy.ev_k,Wy.ev_h,Wy.ev_bn,Wy.ev_d,tT,hi,i0];rw [zbi (by omega)]
   cases (a.getD i default).Fs.length==0 <;>rfl)
  (λH K D=>by
   show (zls a a.length).ev H K D=_;unfold zls;simp only [Wy.ev_i,Wy.ev_k,tT,Nat.lt_irrefl]) (a.length+Int.toNat (0:Int)+(1:Nat)) (by omega)
 rw [show ((0:Nat):Int)=(0:Int) from rfl] at this
 rw [Wy.fin_bn,this,zvT (λt:Term=> !(t.Fs.length==0)) a]
 have e:(a.all λt:Term=> !(t.Fs.length==0))= !zyP a:=by simp [zyP,List.all_eq_not_any_not]
 rw [e];cases zyP a <;>rfl
def isC:yB->Bool
 | [t]=>t.Fs.length==0
 | _=>false
theorem zTq (a:yB):zfU a=(true,isC a):=by
 unfold zfU zt5
 match a with
 | []=>rfl
 | [t]=>exact congrArg (Prod.mk true) (i0 t.Fs.length)
 | t::u::r=>
  have:((Int.ofNat (t::u::r).length)==(1:Int))=false:=by simp; omega
  rw [Wy.fin_i,this]; rfl
def z0q (p:Fc->Bool):yC->Bool
 | [f]=>p f
 | _=>false
def isU:yB->Bool
 | [t]=>t.Cf==1&&z0q (λf=>f.Exp==1&&(f.At.Kind==2||f.At.Kind==3||f.At.Kind==4)) t.Fs
 | _=>false
theorem zV9 (x:At):zeq x=(true,x.Kind==3||x.Kind==4):=by
 unfold zeq zuc;rw [Wy.fin_i,Wy.fin_k,Wy.fin_k];cases x.Kind==3 <;>rfl
theorem zIv {τ:Type} (x y:τ) (r:List τ):((Int.ofNat (x::y::r).length)==(1:Int))=false:=by
 rw [beq_eq_false_iff_ne]; simp; omega
theorem zX9 (a:yB):zjb a=(true,isU a):=by
 unfold zjb zxH
 match a with
 | []=>rfl
 | ⟨c,[]⟩::[]=>
  show (bif c != 1 then (true,false) else (true,false))=(true,c==1&&false)
  cases c != 1 <;>simp
 | ⟨c,[f]⟩::[]=>
  simp only [Wy.fin_i,Wy.fin_k,tT,isU,List.length_singleton,zV9,Wy.fin_bn,Wy.fin_d];show (bif c != 1 then (true,false) else bif f.Exp==1 then bif f.At.Kind==2 then (true,true) else (true,f.At.Kind==3||f.At.Kind==4) else (true,false))=(true,c==1&&(f.Exp==1&&(f.At.Kind==2||f.At.Kind==3||f.At.Kind==4)))
  rw [show (c != 1)= !(c==1) from rfl]
  cases c==1 <;>cases f.Exp==1 <;>cases f.At.Kind==2 <;>simp
 | ⟨c,f::g::r⟩::[]=>
  simp only [Wy.fin_i,bne,zIv];show (bif !(c==1) then (true,false) else (true,false))=(true,c==1&&false)
  cases c==1 <;>rfl
 | t::u::r=>rw [Wy.fin_i,bne,zIv]; rfl
def isB:yB->Bool
 | [t]=>t.Cf==1&&z0q (λf=>f.Exp==1&&decide (2<=f.At.Kind)) t.Fs
 | _=>false
theorem zRh (a:yB):zpZ a=(true,isB a):=by
 unfold zpZ zHY
 match a with
 | []=>rfl
 | ⟨c,[]⟩::[]=>
  show (bif c==1 then (true,false) else (true,false))=(true,c==1&&false)
  cases c==1 <;>rfl
 | ⟨c,[f]⟩::[]=>
  simp only [Wy.fin_i,Wy.fin_k,tT,List.length_singleton,Wy.fin_bn,Wy.fin_d];show (bif c==1 then bif decide (2<=f.At.Kind) then (true,f.Exp==1) else (true,false) else (true,false))=(true,c==1&&(f.Exp==1&&decide (2<=f.At.Kind)))
  cases c==1 <;>cases f.Exp==1 <;>cases decide (2<=f.At.Kind) <;>simp
 | ⟨c,f::g::r⟩::[]=>
  rw [Wy.fin_i];show (bif true then (Wy.i true (Wy.i (c==1) (Wy.i true (Wy.i (Int.ofNat (f::g::r).length==1) _ (.k false)) .d) (.k false)) .d:Wy0 Bool).fin default else _)=(true,c==1&&false)
  simp only [Wy.fin_i,Wy.fin_k,zIv,cond_true,cond_false];cases c==1 <;>rfl
 | t::u::r=>rw [Wy.fin_i,zIv]; rfl
theorem zG3 (a b:Nat):decide (a>b)= !decide (a<=b):=by
 by_cases h:a<=b
 ·have:¬ a>b:=by omega
  simp [h,this]
 ·have:a>b:=by omega
  simp [h,this]
def zyY (t:Term):Bool:= !(decide (t.Fs.length>64)||t.Fs.any λf=>decide (f.Exp>64)||decide (f.At.Items.length>1024))
def zyW (a:yB):Bool:=decide (a.length<=512)&&decide (zbI a<=8)&&decide (zY a<=4096)&&a.all zyY
theorem zWv (l:yC) (h:l.length<=1000000):zb9 l=(true,l.any λf=>decide (f.Exp>64)||decide (f.At.Items.length>1024)):=by
 unfold zb9 zgB
 have hw:zcK=zWM (λ(_:Unit) x=>zeW x):=by
  funext x y
  unfold zcK zhq zWM zTK;rw [Fc.eta2]
 have:zcq l=IG (λ(_:Unit) x=>zeW x) (l.length+(Int.ofNat l.length).toNat +Int.toNat (0:Int)+(1:Nat)) () l:=by
  unfold zcq zhL zhw;rw [hw]; rfl
 exact zsg (this.trans (zRg _ _ _ _ _ (by omega) (λx _=>by
  unfold zeW zsF;rw [Wy.fin_i,Wy.fin_k,Wy.fin_k];have e:decide (Int.ofNat x.At.Items.length>(1024:Int))=decide (x.At.Items.length>1024):=zpM _ 1024;rw [e];cases decide (x.Exp>64) <;>rfl) (by omega)))
theorem zXs {d:Nat} {a:yB} (h:zP d a) (hd:d<=100) (hs:zY a<=4611686018427387904):zi8 a=(true,zyW a):=by
 obtain ⟨h1,h2⟩:a.length<=1000000/\∀ t∈a,t.Fs.length<=1000000:=by
  cases d with
  | zero=>exact h.elim
  | succ d=>exact ⟨h.1,λt ht=>(h.2 t ht).1⟩
 have h3:zb0 a=(true,a.any λt=> !zyY t):=by
  unfold zb0 zgf;have:zcZ a=IG (λ(_:Unit) x=>ziO x) (a.length+(Int.ofNat a.length).toNat +Int.toNat (0:Int)+(1:Nat)) () a:=rfl
  exact zsg (this.trans (zRg _ _ _ _ _ (by omega) (λx hx=>by
   unfold ziO zu5;rw [Wy.fin_i,Wy.fin_k,Wy.fin_bn,zWv _ (h2 x hx)];have e:decide (Int.ofNat x.Fs.length>(64:Int))=decide (x.Fs.length>64):=zpM _ 64;rw [e];unfold zyY;cases decide (x.Fs.length>64) <;>simp [Wy.fin_k]) (by omega)))
 unfold zi8 zxL;have n1:zts a=(true,(zbI a:Int)):=(zRI 1000 d a h (by omega) hd).1
 have n2:zoF a=(true,(zY a:Int)):=(zJt 1000 d a h (by omega) hs).1
 simp only [Wy.fin_i,Wy.fin_k,Wy.fin_bn,n1,n2,h3,cond_true];have e1:decide (Int.ofNat a.length>(512:Int))= !decide (a.length<=512):=by rw [show decide (Int.ofNat a.length>(512:Int))=decide (a.length>512) from zpM _ 512]; exact zG3 _ _
 have e2:decide ((zbI a:Int)>(8:Int))= !decide (zbI a<=8):=by rw [show decide ((zbI a:Int)>(8:Int))=decide (zbI a>8) from zpM _ 8]; exact zG3 _ _
 have e3:decide ((zY a:Int)>(4096:Int))= !decide (zY a<=4096):=by rw [show decide ((zY a:Int)>(4096:Int))=decide (zY a>4096) from zpM _ 4096]; exact zG3 _ _
 have e4:(a.any λt=> !zyY t)= !a.all zyY:=by simp [List.all_eq_not_any_not]
 rw [e1,e2,e3,e4];unfold zyW;cases decide (a.length<=512) <;>cases decide (zbI a<=8) <;>cases decide (zY a<=4096) <;>simp
theorem z0y (a:yB) (i:Nat) (hi:i<a.length) (hl:(a.getD i default).Fs.length<=1000000) (fuel:Nat) (hf:(a.getD i default).Fs.length<fuel):
  zKn fuel a i 0=(true,bif (a.getD i default).Fs.any λf=>decide (f.Exp>64)||decide (f.At.Items.length>1024) then .inl false else .inr (a,(i:Int))):=by
 have:=zmm (W:=zA1) (z:=.inl default) (a.getD i default).Fs.length (λk=>(a,(i:Int),(k:Int),())) (λ_=>()) (λk=>(λf:Fc=> !(decide (f.Exp>64)||decide (f.At.Items.length>1024))) ((a.getD i default).Fs.getD k default)) (.inl false) (.inr (a,(i:Int)))
  (λk hk H K D=>by
   show (zrF a i k).ev H K D=_;unfold zrF;simp only [Wy.ev_i,Wy.ev_k,Wy.ev_h,Wy.ev_bn,Wy.ev_d,tT,hi,hk];rw [zbi (by omega),show decide ((((a.getD i default).Fs.getD k default).At.Items.length:Int)>(1024:Int))=_ from zpM _ 1024]
   cases decide (((a.getD i default).Fs.getD k default).Exp>64) <;>cases decide (1024<((a.getD i default).Fs.getD k default).At.Items.length) <;>rfl)
  (λH K D=>by
   show (zrF a i (a.getD i default).Fs.length).ev H K D=_;unfold zrF;simp only [Wy.ev_i,Wy.ev_k,Wy.ev_h,Wy.ev_bn,Wy.ev_d,tT,hi,Nat.lt_irrefl]) fuel hf
 rw [zvT (λf:Fc=> !(decide (f.Exp>64)||decide (f.At.Items.length>1024)))] at this
 have e:((a.getD i default).Fs.all λf=> !(decide (f.Exp>64)||decide (f.At.Items.length>1024)))= !((a.getD i default).Fs.any λf=>decide (f.Exp>64)||decide (f.At.Items.length>1024)):=by simp [List.all_eq_not_any_not]
 rw [e] at this;refine this.trans ?_;cases (a.getD i default).Fs.any λf=>decide (f.Exp>64)||decide (f.At.Items.length>1024) <;>rfl
theorem zZ2 {d:Nat} {a:yB} (h:zP d a) (hd:d<=100) (hs:zY a<=4611686018427387904):zwA a=(true,zyW a):=by
 obtain ⟨h1,h2⟩:a.length<=1000000/\∀ t∈a,t.Fs.length<=1000000:=by
  cases d with
  | zero=>exact h.elim
  | succ d=>exact ⟨h.1,λt ht=>(h.2 t ht).1⟩
 have h3:zKh ((a.length+Int.toNat (0:Int)+(1:Nat))+zdi a) a 0=(true,bif a.all zyY then .inr () else .inl false):=by
  have:=zmm (W:=zAl) (z:=.inl default) a.length (λk=>(a,(k:Int),())) (λ_=>()) (λk=>zyY (a.getD k default)) (.inl false) (.inr ())
   (λk hk H K D=>by
    show (zrK a k).ev H K D=_;unfold zrK;have h4:=h2 _ (zX hk);have h5:=zxX a k hk;simp only [Wy.ev_i,Wy.ev_k,Wy.ev_h,Wy.ev_bn,Wy.ev_d,tT,hk];rw [z0y a k hk h4 _ (by omega)]
    have e:decide (((a.getD k default).Fs.length:Int)>(64:Int))=decide ((a.getD k default).Fs.length>64):=zpM _ 64;rw [e];unfold zyY;cases decide ((a.getD k default).Fs.length>64) <;>cases ((a.getD k default).Fs.any λf=>decide (f.Exp>64)||decide (f.At.Items.length>1024))
    ·simp only [cond_false,cond_true,isL,getR]; rw [zbi (by omega)]; rfl
    all_goals rfl)
   (λH K D=>by
    show (zrK a a.length).ev H K D=_;unfold zrK;simp only [Wy.ev_i,Wy.ev_k,Wy.ev_h,Wy.ev_bn,Wy.ev_d,tT,Nat.lt_irrefl]) ((a.length+Int.toNat (0:Int)+(1:Nat))+zdi a) (by omega)
  rw [zvT] at this;exact this
 unfold zwA zNm;have n1:zAy a=(true,(zbI a:Int)):=(zRI 1000 d a h (by omega) hd).2
 have n2:zwX a=(true,(zY a:Int)):=(zJt 1000 d a h (by omega) hs).2
 simp only [Wy.fin_i,Wy.fin_k,Wy.fin_bn,n1,n2,h3,cond_true];have e1:decide (Int.ofNat a.length>(512:Int))= !decide (a.length<=512):=by rw [show decide (Int.ofNat a.length>(512:Int))=decide (a.length>512) from zpM _ 512]; exact zG3 _ _
 have e2:decide ((zbI a:Int)>(8:Int))= !decide (zbI a<=8):=by rw [show decide ((zbI a:Int)>(8:Int))=decide (zbI a>8) from zpM _ 8]; exact zG3 _ _
 have e3:decide ((zY a:Int)>(4096:Int))= !decide (zY a<=4096):=by rw [show decide ((zY a:Int)>(4096:Int))=decide (zY a>4096) from zpM _ 4096]; exact zG3 _ _
 rw [e1,e2,e3];unfold zyW;cases decide (a.length<=512) <;>cases decide (zbI a<=8) <;>cases decide (zY a<=4096) <;>cases a.all zyY <;>simp [isL,getL]
def zuA (v:Value):Bool:=(v.Kind==0&&v.Text.size==0)||(v.Kind==1&&v.Int==0&&decide (v.Text.size<=255))||(v.Kind==2&&v.Text.size==0&&(v.Int==0||v.Int==1))
theorem zUR (s:ByteArray):(s.toList==(ByteArray.mk #[]).toList)=(s.size==0):=by
 rw [zMB];by_cases h:s.size=0
 ·have:s=ByteArray.mk #[]:=zzQ (by
   have:s.data.toList.length=0:=by simpa using h
   rw [List.length_eq_zero_iff.1 this])
  subst this; rfl
 ·have:¬ s=ByteArray.mk #[]:=λe=>h (by rw [e]; rfl)
  simp [h,this]
theorem zHt (v:Value):zpo v=(true,zuA v):=by
 unfold zpo zJ5 zuA;simp only [zUR,Wy.fin_i,Wy.fin_k,zpc,zUc];have e:decide (Int.ofNat v.Text.size<=(255:Int))=decide (v.Text.size<=255):=zr3 _ 255;rw [e];by_cases h0:v.Kind=0
 ·simp [h0]
 ·by_cases h1:v.Kind=1
  ·by_cases h2:v.Int=0 <;>simp [h1,h2]
  ·by_cases h2:v.Kind=2
   ·by_cases h3:v.Int=0
    ·simp [h2,h3]
    ·by_cases h4:v.Int=1 <;>simp [h2,h3,h4]
   ·simp [h0,h1,h2]
theorem zHg (v:Value):zsc v=(true,zuA v):=by
 unfold zsc zKl zuA;simp only [zUR,Wy.fin_i,Wy.fin_k,zpc,zUc];have e:decide (Int.ofNat v.Text.size<=(255:Int))=decide (v.Text.size<=255):=zr3 _ 255;rw [e];by_cases h0:v.Kind=0
 ·simp [h0]
 ·by_cases h1:v.Kind=1
  ·by_cases h2:v.Int=0 <;>simp [h1,h2]
  ·by_cases h2:v.Kind=2
   ·by_cases h3:v.Int=0
    ·by_cases h4:v.Text.size=0 <;>simp [h2,h3,h4]
    ·by_cases h4:v.Text.size=0 <;>simp [h2,h3,h4]
   ·simp [h0,h1,h2]
def zCP (fn:Int) (b:Value) (w:Wd):Bool:=zuA w.Value&&(w.Value.Kind==b.Kind)&& !(fn==0&&w.Value.Int != 1)
def zFJ (fn:Int) (l:yD) (op:Int) (b:Value):Bool:=decide (0<=fn)&&decide (fn<=3)&&decide (5<=op)&&decide (op<=10)&&zuA b&& !(decide (fn<=1)&&b.Kind != 0)&&l.all (zCP fn b)
theorem zY2 (l:yD) (fn:Int) (b:Value) (h:l.length<=1000000):zbm l b fn=(true, !l.all (zCP fn b)):=by
 unfold zbm zft;have:zcH l b fn=IG (λ(g:Value×(Int×Unit)×Unit) x=>zf6 x g.1 g.2.1.1) (l.length+fn.toNat +(Int.ofNat l.length).toNat +Int.toNat (0:Int)+(1:Nat)) (b,(fn,()),()) l:=rfl
 have e:(!l.all (zCP fn b))=l.any λw=> !zCP fn b w:=by simp [List.all_eq_not_any_not]
 rw [e]
 exact zsg (this.trans (zRg _ _ _ _ _ (by omega) (λx _=>by
  show zf6 x b fn=_;unfold zf6 zul zCP;simp only [Wy.fin_i,Wy.fin_k,Wy.fin_bn,zHt,cond_true,zpc,zJW];cases zuA x.Value <;>by_cases h1:x.Value.Kind=b.Kind <;>by_cases h2:fn=0 <;>simp [zpc,zJW,h1,h2]) (by omega)))
theorem zXd (fn:Int) (l:yD) (op:Int) (b:Value) (h:l.length<=1000000):zhX fn l op b=(true,zFJ fn l op b):=by
 unfold zhX zwZ zFJ;simp only [Wy.fin_i,Wy.fin_k,Wy.fin_bn,zHt,zY2 l fn b h,cond_true,zpc,zJW];by_cases h1:fn<0
 ·have:¬ (0<=fn):=by omega
  simp [h1,this]
 by_cases h2:3<fn
 ·have:¬ (fn<=3):=by omega
  simp [h1,h2,this]
 by_cases h3:op<5
 ·have:¬ (5<=op):=by omega
  simp [h1,h2,h3,this]
 by_cases h4:10<op
 ·have:¬ (op<=10):=by omega
  simp [h1,h2,h3,h4,this]
 have g1:0<=fn:=by omega
 have g2:fn<=3:=by omega
 have g3:5<=op:=by omega
 have g4:op<=10:=by omega
 cases zuA b with
 | false=>simp [h1,h2,h3,h4]
 | true=>
  by_cases h5:fn=0
  ·subst h5; by_cases h6:b.Kind=0 <;>simp [h3,h4,h6,g3,g4]
  ·by_cases h7:fn=1
   ·subst h7; by_cases h6:b.Kind=0 <;>simp [h3,h4,h6,g3,g4]
   ·have:¬ fn<=1:=by omega
    simp [h1,h2,h3,h4,h5,h7,this,g1,g2,g3,g4]
theorem zYz (fn:Int) (l:yD) (op:Int) (b:Value) (h:l.length<=1000000):zuX fn l op b=(true,zFJ fn l op b):=by
 unfold zuX zKb zFJ
 have hl:zxY (fn.toNat +l.length+Int.toNat (0:Int)+(1:Nat)) fn l (0:Int) b=(true,bif l.all (zCP fn b) then .inr () else .inl false):=by
  have:=zmm (W:=zx5) (z:=.inl default) l.length (λk=>(fn,l,(),(k:Int),())) (λ_=>(b,())) (λk=>zCP fn b (l.getD k default)) (.inl false) (.inr ())
   (λk hk H K D=>by
    show (zpS fn l k b).ev H K D=_;unfold zpS zCP;simp only [Wy.ev_i,Wy.ev_k,Wy.ev_h,Wy.ev_bn,Wy.ev_d,tT,hk,zHg,zpc,zJW];rw [zbi (by omega)]
    cases zuA (l.getD k default).Value <;>cases decide ((l.getD k default).Value.Kind=b.Kind) <;>cases decide (fn=0) <;>cases decide ((l.getD k default).Value.Int=1) <;>rfl)
   (λH K D=>by
    show (zpS fn l l.length b).ev H K D=_;unfold zpS;simp only [Wy.ev_i,Wy.ev_k,Wy.ev_h,Wy.ev_bn,Wy.ev_d,tT,Nat.lt_irrefl]) (fn.toNat +l.length+Int.toNat (0:Int)+(1:Nat)) (by omega)
  rw [zvT] at this;exact this
 simp only [Wy.fin_i,Wy.fin_k,Wy.fin_bn,zHg,hl,cond_true,zpc,zJW];by_cases h1:fn<0
 ·have:¬ (0<=fn):=by omega
  simp [h1,this]
 by_cases h2:3<fn
 ·have:¬ (fn<=3):=by omega
  simp [h1,h2,this]
 by_cases h3:op<5
 ·have:¬ (5<=op):=by omega
  simp [h1,h2,h3,this]
 by_cases h4:10<op
 ·have:¬ (op<=10):=by omega
  simp [h1,h2,h3,h4,this]
 have g1:0<=fn:=by omega
 have g2:fn<=3:=by omega
 have g3:5<=op:=by omega
 have g4:op<=10:=by omega
 cases zuA b with
 | false=>simp [h1,h2,h3,h4]
 | true=>
  by_cases h5:fn<=1
  ·by_cases h6:b.Kind=0
   ·cases l.all (zCP fn b) <;>simp [h1,h2,h3,h4,h5,h6,g1,g2,g3,g4,isL,getL]
   ·simp [h1,h2,h3,h4,h5,h6,g1,g2,g3,g4]
  ·cases l.all (zCP fn b) <;>simp [h1,h2,h3,h4,h5,g1,g2,g3,g4,isL,getL]
def bz (b:Value):Bool:=b.Kind==(0:Int)&&(b.Int==(0:Int)&&(b.Text.toList==(ByteArray.mk #[]).toList&&true))
def plA (x:At):Bool:=x.Func==0&&(x.Items.length==0)&&x.Op==0&&bz x.Bd
theorem zYU (x:At):zmn x=(true,plA x):=by
 unfold zmn zKd plA;simp only [Wy.fin_i,Wy.fin_k,Int.ofNat_eq_natCast,i0];show _=(true,_&&_&&_&&bz x.Bd);rw [show (x.Bd.Kind==(0:Int)&&(x.Bd.Int==(0:Int)&&(x.Bd.Text.toList==(ByteArray.mk #[]).toList&&true)))=bz x.Bd from rfl]
 cases x.Func==0 <;>cases x.Items.length==0 <;>cases x.Op==0 <;>rfl
def zLy (l:yD) (k:Nat):Bool:=decide (k=0)||decide (zbL (zfc (l.getD (k - 1) default)) (zfc (l.getD k default))<=0)
def zPQ (l:yD):Bool:=zjm (zLy l) l.length 0
theorem zSX (c:Nat->Bool):∀ n i,zjm c (n+1) i=(zjm c n i&&c (i+n))
 | 0,i=>by simp [zjm]
 | n+1,i=>by
  rw [zjm,zSX c n (i+1),zjm,show i+1+n=i+(n+1) by omega,Bool.and_assoc]
theorem zJ9 {d:Nat} (l:yD) (hl:l.length<=1000000) (h:∀ w∈l,zP d w.Ann) (hd:d<=99):∀ (n i:Nat),i<l.length->i<n->zds n l i=(true,bif zjm (zLy l) (i+1) 0 then .inr () else .inl false)
 | 0,i,hi,hn=>by omega
 | n+1,i,hi,hn=>by
  show (zdu l i).ev (λx y=>zds n x.1 x.2.2.1) (λr=>(true,r)) (false,.inl default)=_
  unfold zdu;have hg:decide ((i:Int)>(0:Int))=decide (0<i):=zpM i 0;cases i with
  | zero=>simp [Wy.ev_i,Wy.ev_k,zjm,zLy]
  | succ i=>
   have hi':i<l.length:=by omega
   have hw:IntKind.i64.wrap (((i+1:Nat):Int) - 1)=(i:Int):=by rw [zoV (by omega) (by omega)]; rfl
   have hp:decide (0<i+1)=true:=by simp
   simp only [Wy.ev_i,Wy.ev_k,Wy.ev_h,Wy.ev_bn,Wy.ev_d,hg,hp,hw,tT,hi,hi',zA6 (h _ (zX hi)) hd];rw [zJ9 l hl h hd n i hi' (by omega),zSX _ (i+1),Nat.zero_add]
   have:zLy l (i+1)= !decide (zbL (zfc (l.getD (i+1) default)) (zfc (l.getD i default))<0):=by
    unfold zLy;rw [show i+1 - 1=i from rfl,zE0 (zfc (l.getD (i+1) default)) (zfc (l.getD i default))]
    generalize zbL (zfc (l.getD (i+1) default)) (zfc (l.getD i default))=z;by_cases hz:z<0
    ·have:¬ (-z<=0):=by omega
     simp [hz,this]
    ·have:(-z<=0):=by omega
     simp [hz,this]
   rw [this];cases decide (zbL (zfc (l.getD (i+1) default)) (zfc (l.getD i default))<0) <;>simp
theorem zVz {d:Nat} (l:yD) (hl:l.length<=1000000) (h:∀ w∈l,zP d w.Ann) (hd:d<=99):zb2 l=(true,zPQ l):=by
 unfold zb2 zgu zPQ
 match l,hl,h with
 | [],_,_=>rfl
 | x::r,hl,h=>
  have hw:IntKind.i64.wrap (Int.ofNat (x::r).length - 1)=(r.length:Int):=by
   rw [qf] at hl;rw [show Int.ofNat (x::r).length=(((x::r).length:Nat):Int) from rfl,zoV (by simp) (by simp; omega)]; rfl
  rw [Wy.fin_bn,hw,zJ9 (x::r) hl h hd _ r.length (by simp) (by simp; omega)]
  cases zjm (zLy (x::r)) (r.length+1) 0 with
  | true=>simp [Wy.fin_i,Wy.fin_k,isL]
  | false=>simp [Wy.fin_i,Wy.fin_k,isL,getL]
end Go.Proofs.YtnolcogncjijpaaGreatDoor
end
