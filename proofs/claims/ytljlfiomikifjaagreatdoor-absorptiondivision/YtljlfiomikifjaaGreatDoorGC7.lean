/- Texts of this claim, joined (the program, its functions in plain words, and what they compute). -/
import Derived.Test.YtljlfiomikifjaaGreatDoorGC6
set_option autoImplicit false
set_option linter.unusedVariables false
set_option linter.unusedSectionVars false
set_option linter.unusedSimpArgs false
set_option maxRecDepth 1000000
set_option maxHeartbeats 0
/- Division of terms, antichains, absorptive normal forms: no program in sight. -/
noncomputable section
namespace Go.Proofs.YtljlfiomikifjaaGreatDoor
open Go Go.Ab
def dvF (a b:yD):Bool:=a.all fun f=>b.any fun g=>decide (f.Exp≤g.Exp)&&decide (f.Atom=g.Atom)
theorem z4W {a b:yD}:dvF a b=true↔∀ f∈a,∃ g∈b,f.Exp≤g.Exp∧f.Atom=g.Atom:=by
 unfold dvF;simp only [List.all_eq_true,List.any_eq_true,qc,qe]
theorem z7p (a:yD):dvF a a=true:=z4W.2 fun f hf=>⟨f,hf,Int.le_refl _,rfl⟩
theorem z5i {α:Type} (e:α→TT) (he:∀ a b,e a=e b→a=b):Ord3 fun a b=>cmpT (e a) (e b) where
 eq x y:=⟨fun h=>he _ _ (zwb _ _ h),fun h=>by subst h; exact zKz _⟩
 swap x y:=by rw [zun (e x) (e y)]; omega
 trans x y z h1 h2:=by
  have h3:cmpT (e x) (e z)≤0:=zPn _ _ _ (Int.le_of_lt h1) (Int.le_of_lt h2);by_cases h4:cmpT (e x) (e z)=0
  ·have h5:=zwb _ _ h4;rw [h5,zun (e y) (e z)] at h1;omega
  ·omega
abbrev AscF (l:yD):Prop:=l.Pairwise fun f g=>cmpT (zdI f.Atom) (zdI g.Atom)<0
def cL (a b:yD):Int:=cmpT (.l (zbF a)) (.l (zbF b))
theorem ordL:Ord3 cL:=z5i (fun a=>.l (zbF a)) fun a b h=>zzD _ _ (TT.l.inj h)
structure Canon (a:yC):Prop where
 asc:a.Pairwise fun t u=>cL t.Factors u.Factors<0
 fac:∀ t∈a,AscF t.Factors
theorem Canon.tail {t:Term} {a:yC} (h:Canon (t::a)):Canon a:=⟨(qi.1 h.asc).2,fun x hx=>h.fac x (by simp [hx])⟩
def leS (a b:yC):Bool:=a.all fun t=>b.any fun u=>dvF u.Factors t.Factors
theorem z8N {a b:yC}:leS a b=true↔∀ t∈a,∃ u∈b,dvF u.Factors t.Factors=true:=by
 unfold leS;simp only [List.all_eq_true,List.any_eq_true]
def z8s (a b s:yC):Prop:=∀ l:yD,(∃ t∈s,t.Factors=l)↔(∃ t∈a,t.Factors=l)∨∃ t∈b,t.Factors=l
theorem z8s.le {a b s c:yC} (h:z8s a b s):leS s c=true↔leS a c=true∧leS b c=true:=by
 simp only [z8N];constructor
 ·intro hs;refine ⟨fun t ht=> ?_,fun t ht=> ?_⟩
  ·obtain ⟨t',ht',e⟩:=(h t.Factors).2 (.inl ⟨t,ht,rfl⟩);rw [← e]; exact hs t' ht'
  ·obtain ⟨t',ht',e⟩:=(h t.Factors).2 (.inr ⟨t,ht,rfl⟩);rw [← e]; exact hs t' ht'
 ·rintro ⟨h1,h2⟩ t ht
  rcases (h t.Factors).1 ⟨t,ht,rfl⟩ with ⟨u,hu,e⟩ | ⟨u,hu,e⟩
  ·rw [← e]; exact h1 u hu
  ·rw [← e]; exact h2 u hu
theorem zvE:∀ {l:yD},zrX l→∀ x∈l,zuO x
 | [],_,x,hx=>by cases hx
 | y::r,h,x,hx=>by
  unfold zrX at h;rcases qd.1 hx with rfl | hx
  ·exact h.1
  ·exact zvE h.2 x hx
theorem zxZ:∀ {l:yC},zhx l→∀ x∈l,zzh x
 | [],_,x,hx=>by cases hx
 | y::r,h,x,hx=>by
  unfold zhx at h;rcases qd.1 hx with rfl | hx
  ·exact h.1
  ·exact zxZ h.2 x hx
theorem znP:∀ {l:yA},zxD l→∀ x∈l,zhx x∧x.length≤roomLen
 | [],_,x,hx=>by cases hx
 | y::r,h,x,hx=>by
  unfold zxD at h;rcases qd.1 hx with rfl | hx
  ·exact h.1
  ·exact znP h.2 x hx
theorem zwa:∀ {l:yE},ztP l→∀ x∈l,wf65 x.Value∧zhx x.Ann∧x.Ann.length≤roomLen
 | [],_,x,hx=>by cases hx
 | y::r,h,x,hx=>by
  unfold ztP at h;rcases qd.1 hx with rfl | hx
  ·have:=h.1; unfold zDU at this; exact ⟨this.1,this.2.1,this.2.2⟩
  ·exact zwa h.2 x hx
theorem zA3 {t:Term} (h:zzh t):wf2 t.Coeff∧zrX t.Factors∧t.Factors.length≤roomLen:=by
 unfold zzh at h; exact ⟨h.1,h.2.1,h.2.2⟩
theorem zx4 {t:Factor} (h:zuO t):zjl t.Atom∧wf3 t.Exp:=by
 unfold zuO at h; exact h
theorem zGT {x:Atom} (h:zjl x):(zxD x.Args∧x.Args.length≤roomLen)∧(ztP x.Items∧x.Items.length≤roomLen)∧wf65 x.Bound∧wf3 x.Kind∧wf49 x.Row∧wf3 x.Func∧wf3 x.Op:=by
 obtain ⟨k,r,a,f,i,o,b⟩:=x; unfold zjl at h; exact ⟨h.2.2.1,h.2.2.2.2.1,h.2.2.2.2.2.2,h.1,h.2.1,h.2.2.2.1,h.2.2.2.2.2.1⟩
theorem zkA {z:Int} (h0: -4611686018427387904≤z) (h:z<4611686018427387904):IntKind.i64.wrap z=z:=zT0 (by omega) (by omega)
mutual
def zHy:Atom→Nat
 | ⟨_,_,a,_,i,_,b⟩=>i.length+a.length+b.Text.size+zrm a+zmY i
def ziW:yD→Nat
 | []=>0
 | ⟨x,_⟩::r=>zHy x+ziW r
def zfl:yC→Nat
 | []=>0
 | ⟨_,fs⟩::r=>1+fs.length+ziW fs+zfl r
def zrm:yA→Nat
 | []=>0
 | a::r=>zfl a+zrm r
def zmY:yE→Nat
 | []=>0
 | ⟨v,a⟩::r=>v.Text.size+zfl a+zmY r
end
theorem z5j (x:Atom):zHy x=x.Items.length+x.Args.length+x.Bound.Text.size+zrm x.Args+zmY x.Items:=by cases x; rw [zHy]
theorem zXO (f:Factor) (r:yD):ziW (f::r)=zHy f.Atom+ziW r:=by cases f; rw [ziW]
theorem z3Y (t:Term) (r:yC):zfl (t::r)=1+t.Factors.length+ziW t.Factors+zfl r:=by cases t; rw [zfl]
theorem z2B (a:yC) (r:yA):zrm (a::r)=zfl a+zrm r:=by rw [zrm]
theorem z1V (w:Weighted) (r:yE):zmY (w::r)=w.Value.Text.size+zfl w.Ann+zmY r:=by cases w; rw [zmY]
theorem z4e:zrm []=0:=by rw [zrm]
theorem z3s:zmY []=0:=by rw [zmY]
theorem zZ8:ziW []=0:=by rw [ziW]
theorem z5v:zfl []=0:=by rw [zfl]
section
variable (g:yC→Int→Int→Bool×Int) (a:yC) (limit d:Nat) (hl:limit≤1000) (hd:d≤100) (B:Nat) (hB:B≤1152921504606846976) (P:yC→Prop)
include hl hd hB
theorem w14 (x:Atom) (i k:Int) (hlen:x.Args.length≤roomLen) (hg:∀ y∈x.Args,∀ l:Nat,l≤1000→∃ w:Nat,g y l d=(true,(w:Int))∧w≤B∧(w≤l→P y∧zfl y≤w)):
  ∀ (fuel j n:Nat),x.Args.length<j+fuel→j≤x.Args.length→n≤2305843009213693952→∃ n':Nat,zx6 g fuel a limit (d+1:Nat) n i k j x=(true,(a,(limit:Int),((d+1:Nat):Int),(n':Int),i,k,x))∧n≤n'∧n'≤max n (limit+B)∧(n'≤limit→(∀ y∈x.Args.drop j,P y)∧n+zrm (x.Args.drop j)≤n')
 | 0,j,n,h1,h2,h3=>by omega
 | fuel+1,j,n,h1,h2,h3=>by
  show ∃ n':Nat,(zxx g a limit (d+1:Nat) n i k j x).ev (fun x y=>zx6 g fuel x.1 x.2.1 x.2.2.1 x.2.2.2.1 x.2.2.2.2.1 x.2.2.2.2.2.1 x.2.2.2.2.2.2.2.1 y.1) (fun r=>(true,r)) (false,default)=_∧_
  unfold zxx;have hml:roomLen=140737488351232:=rfl;by_cases hj:j<x.Args.length
  ·by_cases hn:n≤limit
   ·have e1:IntKind.i64.wrap ((limit:Int) - (n:Int))=((limit - n:Nat):Int):=by rw [zkA (by omega) (by omega)]; omega
    obtain ⟨w,hw,hwB,hwP⟩:=hg _ (zS hj) (limit - n) (by omega)
    have ed:IntKind.i64.wrap (((d+1:Nat):Int) - 1)=(d:Int):=by rw [zkA (by omega) (by omega)]; omega
    simp only [Wy.ev_i,Wy.ev_k,Wy.ev_h,Wy.ev_bn,Wy.ev_d,tT,hj,zza,hn,e1,ed,hw];have e3:IntKind.i64.wrap ((n:Int)+(w:Int))=((n+w:Nat):Int):=by rw [zkA (by omega) (by omega)]; omega
    rw [e3,zbV (by omega)]
    obtain ⟨n',h4,h5,h6,h7⟩:=w14 x i k hlen hg fuel (j+1) (n+w) (by omega) (by omega) (by omega)
    refine ⟨n',h4,by omega,by omega,fun hn'=> ?_⟩
    obtain ⟨h8,h9⟩:=h7 hn';obtain ⟨p1,p2⟩:=hwP (by omega)
    rw [zbT hj,z2B];refine ⟨fun y hy=> ?_,by omega⟩
    rcases qd.1 hy with rfl | hy
    ·exact p1
    ·exact h8 y hy
   ·simp only [Wy.ev_i,Wy.ev_k,Wy.ev_h,Wy.ev_bn,Wy.ev_d,tT,hj,zza,hn];exact ⟨n,rfl,Nat.le_refl _,by omega,fun h=>absurd h hn⟩
  ·simp only [Wy.ev_i,Wy.ev_k,Wy.ev_h,Wy.ev_bn,Wy.ev_d,tT,hj];exact ⟨n,rfl,Nat.le_refl _,by omega,fun _=>by rw [zez hj,z4e]; exact ⟨fun y hy=>(by cases hy),Nat.le_refl _⟩⟩
theorem w18 (x:Atom) (i k:Int) (hlen:x.Items.length≤roomLen) (hg:∀ y∈x.Items,y.Value.Text.size≤roomLen∧∀ l:Nat,l≤1000→∃ w:Nat,g y.Ann l d=(true,(w:Int))∧w≤B∧(w≤l→P y.Ann∧zfl y.Ann≤w)):
  ∀ (fuel j n:Nat),x.Items.length<j+fuel→j≤x.Items.length→n≤2305843009213693952→∃ n':Nat,zx7 g fuel a limit (d+1:Nat) n i k j x=(true,(a,(limit:Int),((d+1:Nat):Int),(n':Int),i,k))∧n≤n'∧n'≤max n (limit+roomLen+B)∧(n'≤limit→(∀ y∈x.Items.drop j,y.Value.Text.size≤1000∧P y.Ann)∧n+zmY (x.Items.drop j)≤n')
 | 0,j,n,h1,h2,h3=>by omega
 | fuel+1,j,n,h1,h2,h3=>by
  show ∃ n':Nat,(zxA g a limit (d+1:Nat) n i k j x).ev (fun x y=>zx7 g fuel x.1 x.2.1 x.2.2.1 x.2.2.2.1 x.2.2.2.2.1 x.2.2.2.2.2.1 x.2.2.2.2.2.2.2.1 y.1) (fun r=>(true,r)) (false,default)=_∧_
  unfold zxA;have hml:roomLen=140737488351232:=rfl;by_cases hj:j<x.Items.length
  ·by_cases hn:n≤limit
   ·have e1:IntKind.i64.wrap ((limit:Int) - (n:Int))=((limit - n:Nat):Int):=by rw [zkA (by omega) (by omega)]; omega
    obtain ⟨ht,hgy⟩:=hg _ (zS hj);obtain ⟨w,hw,hwB,hwP⟩:=hgy (limit - n) (by omega)
    have ed:IntKind.i64.wrap (((d+1:Nat):Int) - 1)=(d:Int):=by rw [zkA (by omega) (by omega)]; omega
    simp only [Wy.ev_i,Wy.ev_k,Wy.ev_h,Wy.ev_bn,Wy.ev_d,tT,hj,zza,hn,e1,ed,hw];generalize hsz:(x.Items.getD j default).Value.Text.size=sz at *;have e3:IntKind.i64.wrap (IntKind.i64.wrap ((n:Int)+(sz:Int))+(w:Int))=((n+sz+w:Nat):Int):=by rw [zkA (z:=(n:Int)+(sz:Int)) (by omega) (by omega),zkA (by omega) (by omega)]; omega
    rw [e3,zbV (by omega)]
    obtain ⟨n',h4,h5,h6,h7⟩:=w18 x i k hlen hg fuel (j+1) (n+sz+w) (by omega) (by omega) (by omega)
    refine ⟨n',h4,by omega,by omega,fun hn'=> ?_⟩
    obtain ⟨h8,h9⟩:=h7 hn';obtain ⟨p1,p2⟩:=hwP (by omega)
    rw [zbT hj,z1V];refine ⟨fun y hy=> ?_,by omega⟩
    rcases qd.1 hy with rfl | hy
    ·exact ⟨by omega,p1⟩
    ·exact h8 y hy
   ·simp only [Wy.ev_i,Wy.ev_k,Wy.ev_h,Wy.ev_bn,Wy.ev_d,tT,hj,zza,hn];exact ⟨n,rfl,Nat.le_refl _,by omega,fun h=>absurd h hn⟩
  ·simp only [Wy.ev_i,Wy.ev_k,Wy.ev_h,Wy.ev_bn,Wy.ev_d,tT,hj];exact ⟨n,rfl,Nat.le_refl _,by omega,fun _=>by rw [zez hj,z3s]; exact ⟨fun y hy=>(by cases hy),Nat.le_refl _⟩⟩
theorem w9 (i:Nat) (hi:i<a.length) (hla:(a.getD i default).Factors.length≤roomLen) (hg:∀ f∈(a.getD i default).Factors,f.Atom.Args.length≤roomLen∧f.Atom.Items.length≤roomLen∧f.Atom.Bound.Text.size≤roomLen∧(∀ y∈f.Atom.Args,∀ l:Nat,l≤1000→∃ w:Nat,g y l d=(true,(w:Int))∧w≤B∧(w≤l→P y∧zfl y≤w))∧
   ∀ y∈f.Atom.Items,y.Value.Text.size≤roomLen∧∀ l:Nat,l≤1000→∃ w:Nat,g y.Ann l d=(true,(w:Int))∧w≤B∧(w≤l→P y.Ann∧zfl y.Ann≤w)):
  ∀ (fuel k n:Nat),(a.getD i default).Factors.length<k+fuel→k≤(a.getD i default).Factors.length→n≤2305843009213693952→∃ n':Nat,zyJ g fuel a limit (d+1:Nat) n i k=(true,(a,(limit:Int),((d+1:Nat):Int),(n':Int),(i:Int)))∧n≤n'∧n'≤max n (limit+4*roomLen+B)∧
   (n'≤limit→(∀ f∈(a.getD i default).Factors.drop k,(f.Atom.Args.length≤1000∧f.Atom.Items.length≤1000∧f.Atom.Bound.Text.size≤1000)∧(∀ y∈f.Atom.Args,P y)∧∀ y∈f.Atom.Items,y.Value.Text.size≤1000∧P y.Ann)∧n+ziW ((a.getD i default).Factors.drop k)≤n')
 | 0,k,n,h1,h2,h3=>by omega
 | fuel+1,k,n,h1,h2,h3=>by
  show ∃ n':Nat,(zyR g a limit (d+1:Nat) n i k).ev (fun x y=>zyJ g fuel x.1 x.2.1 x.2.2.1 x.2.2.2.1 x.2.2.2.2.1 x.2.2.2.2.2.1) (fun r=>(true,r)) (false,default)=_∧_
  unfold zyR;have hml:roomLen=140737488351232:=rfl;by_cases hk:k<(a.getD i default).Factors.length
  ·by_cases hn:n≤limit
   ·simp only [Wy.ev_i,Wy.ev_k,Wy.ev_h,Wy.ev_bn,Wy.ev_d,tT,hi,hk,zza,hn,Atom.eta];obtain ⟨ha1,ha2,ha3,hgA,hgI⟩:=hg _ (zS hk);generalize hf:((a.getD i default).Factors.getD k default)=f at *
    have e0:IntKind.i64.wrap (IntKind.i64.wrap (IntKind.i64.wrap ((n:Int)+(f.Atom.Items.length:Int))+(f.Atom.Args.length:Int))+(f.Atom.Bound.Text.size:Int))=((n+f.Atom.Items.length+f.Atom.Args.length+f.Atom.Bound.Text.size:Nat):Int):=by
     rw [zkA (z:=(n:Int)+(f.Atom.Items.length:Int)) (by omega) (by omega),zkA (z:=(n:Int)+(f.Atom.Items.length:Int)+(f.Atom.Args.length:Int)) (by omega) (by omega),zkA (by omega) (by omega)]; omega
    rw [e0];obtain ⟨n1,q1,q2,q3,q4⟩:=w14 g a limit d hl hd B hB P f.Atom i k ha1 hgA (a.length+limit+(d+1)+((n+f.Atom.Items.length+f.Atom.Args.length+f.Atom.Bound.Text.size:Nat):Int).toNat +i+k+Int.toNat 0+f.Atom.Args.length+f.Atom.Items.length+1) 0 (n+f.Atom.Items.length+f.Atom.Args.length+f.Atom.Bound.Text.size) (by omega) (by omega) (by omega)
    rw [show ((0:Nat):Int)=(0:Int) from rfl] at q1
    rw [q1];simp only [cond_true,Atom.eta,Int.toNat_natCast];obtain ⟨n2,r1,r2,r3,r4⟩:=w18 g a limit d hl hd B hB P f.Atom i k ha2 hgI (a.length+limit+(d+1)+n1+i+k+Int.toNat 0+f.Atom.Args.length+f.Atom.Items.length+1) 0 n1 (by omega) (by omega) (by omega)
    rw [show ((0:Nat):Int)=(0:Int) from rfl] at r1
    rw [r1];simp only [cond_true];rw [zbV (by omega)]
    obtain ⟨n',h4,h5,h6,h7⟩:=w9 i hi hla hg fuel (k+1) n2 (by omega) (by omega) (by omega)
    refine ⟨n',h4,by omega,by omega,fun hn'=> ?_⟩
    obtain ⟨h8,h9⟩:=h7 hn';obtain ⟨q5,q6⟩:=q4 (by omega)
    obtain ⟨r5,r6⟩:=r4 (by omega)
    rw [List.drop_zero] at q5 q6 r5 r6;rw [zbT hk,zXO,hf,z5j];refine ⟨fun y hy=> ?_,by omega⟩
    rcases qd.1 hy with rfl | hy
    ·exact ⟨⟨by omega,by omega,by omega⟩,q5,r5⟩
    ·exact h8 y hy
   ·simp only [Wy.ev_i,Wy.ev_k,Wy.ev_h,Wy.ev_bn,Wy.ev_d,tT,hi,hk,zza,hn];exact ⟨n,rfl,Nat.le_refl _,by omega,fun h=>absurd h hn⟩
  ·simp only [Wy.ev_i,Wy.ev_k,Wy.ev_h,Wy.ev_bn,Wy.ev_d,tT,hi,hk];exact ⟨n,rfl,Nat.le_refl _,by omega,fun _=>by rw [zez hk,zZ8]; exact ⟨fun y hy=>(by cases hy),Nat.le_refl _⟩⟩
theorem w5 (hla:∀ t∈a,t.Factors.length≤roomLen) (hg:∀ t∈a,∀ f∈t.Factors,f.Atom.Args.length≤roomLen∧f.Atom.Items.length≤roomLen∧f.Atom.Bound.Text.size≤roomLen∧(∀ y∈f.Atom.Args,∀ l:Nat,l≤1000→∃ w:Nat,g y l d=(true,(w:Int))∧w≤B∧(w≤l→P y∧zfl y≤w))∧
   ∀ y∈f.Atom.Items,y.Value.Text.size≤roomLen∧∀ l:Nat,l≤1000→∃ w:Nat,g y.Ann l d=(true,(w:Int))∧w≤B∧(w≤l→P y.Ann∧zfl y.Ann≤w)) (hlen:a.length≤roomLen):
  ∀ (fuel i n:Nat),a.length<i+fuel→i≤a.length→n≤2305843009213693952→∃ n':Nat,zyT g fuel a limit (d+1:Nat) n i=(true,(n':Int))∧n≤n'∧n'≤max n (limit+6*roomLen+B)∧
   (n'≤limit→(n+(a.length - i)≤n'∧n+zfl (a.drop i)≤n')∧∀ t∈a.drop i,t.Factors.length≤1000∧∀ f∈t.Factors,(f.Atom.Args.length≤1000∧f.Atom.Items.length≤1000∧f.Atom.Bound.Text.size≤1000)∧(∀ y∈f.Atom.Args,P y)∧∀ y∈f.Atom.Items,y.Value.Text.size≤1000∧P y.Ann)
 | 0,i,n,h1,h2,h3=>by omega
 | fuel+1,i,n,h1,h2,h3=>by
  show ∃ n':Nat,(zy2 g a limit (d+1:Nat) n i).ev (fun x y=>zyT g fuel x.1 x.2.1 x.2.2.1 x.2.2.2.1 x.2.2.2.2.1) (fun r=>(true,r)) (false,default)=_∧_
  unfold zy2;have hml:roomLen=140737488351232:=rfl;by_cases hi:i<a.length
  ·by_cases hn:n≤limit
   ·simp only [Wy.ev_i,Wy.ev_k,Wy.ev_h,Wy.ev_bn,Wy.ev_d,tT,hi,zza,hn];have hla':=hla _ (zS hi)
    have e0:IntKind.i64.wrap (IntKind.i64.wrap ((n:Int)+1)+((a.getD i default).Factors.length:Int))=((n+1+(a.getD i default).Factors.length:Nat):Int):=by
     rw [zbV (by omega),zkA (by omega) (by omega)]; omega
    rw [e0];obtain ⟨n1,q1,q2,q3,q4⟩:=w9 g a limit d hl hd B hB P i hi hla' (hg _ (zS hi)) (a.length+limit+(d+1)+((n+1+(a.getD i default).Factors.length:Nat):Int).toNat +i+Int.toNat 0+1) 0 (n+1+(a.getD i default).Factors.length) (by omega) (by omega) (by omega)
    rw [show ((0:Nat):Int)=(0:Int) from rfl] at q1
    rw [q1];simp only [cond_true];rw [zbV (by omega)]
    obtain ⟨n',h4,h5,h6,h7⟩:=w5 hla hg hlen fuel (i+1) n1 (by omega) (by omega) (by omega)
    refine ⟨n',h4,by omega,by omega,fun hn'=> ?_⟩
    obtain ⟨⟨h8,h10⟩,h9⟩:=h7 hn';obtain ⟨q5,q6⟩:=q4 (by omega)
    rw [List.drop_zero] at q5 q6;rw [zbT hi,z3Y];refine ⟨⟨by omega,by omega⟩,fun y hy=> ?_⟩
    rcases qd.1 hy with rfl | hy
    ·exact ⟨by omega,q5⟩
    ·exact h9 y hy
   ·simp only [Wy.ev_i,Wy.ev_k,Wy.ev_h,Wy.ev_bn,Wy.ev_d,tT,hi,zza,hn];exact ⟨n,rfl,Nat.le_refl _,by omega,fun h=>absurd h hn⟩
  ·simp only [Wy.ev_i,Wy.ev_k,Wy.ev_h,Wy.ev_bn,Wy.ev_d,tT,hi];exact ⟨n,rfl,Nat.le_refl _,by omega,fun _=>by rw [zez hi,z5v]; exact ⟨⟨by omega,Nat.le_refl _⟩,fun y hy=>(by cases hy)⟩⟩
end
theorem z0X:∀ (d N:Nat),d<N→d≤12→∀ (l:Nat),l≤1000→∀ a,zhx a→a.length≤roomLen→∃ w:Nat,zoP N a l d=(true,(w:Int))∧w≤(d+1)*4503599627370496∧(w≤l→zA d a∧zfl a≤w)
 | _,0,h,_,_,_,_,_,_=>by omega
 | 0,N+1,_,_,l,hl,a,hw,hlen=>by
  rw [zF9];unfold ztW zzV;refine ⟨l+1, ?_,by omega,fun h=>by omega⟩
  simp only [Wy.fin_i,Wy.fin_k];rw [zbV (by omega)]; rfl
 | d+1,N+1,hN,hd,l,hl,a,hw,hlen=>by
  rw [zF9];unfold ztW zzV;have hml:roomLen=140737488351232:=rfl;have ih:=fun y (h1:zhx y) (h2:y.length≤roomLen) l hl=>z0X d N (by omega) (by omega) l hl y h1 h2
  have e0:(((d+1:Nat):Int)==(0:Int))=false:=by
   rw [beq_eq_false_iff_ne]; omega
  obtain ⟨n',h1,h2,h3,h4⟩:=w5 (zoP N) a l d hl (by omega) ((d+1)*4503599627370496) (by omega) (zA d) (fun t ht=>(zA3 (zxZ hw t ht)).2.2) (fun t ht f hf=>by
   have hx:=zGT (zx4 (zvE (zA3 (zxZ hw t ht)).2.1 f hf)).1;refine ⟨hx.1.2,hx.2.1.2,hx.2.2.1.2.2,fun y hy l hl=> ?_,fun y hy=> ?_⟩
   ·have:=znP hx.1.1 y hy;exact ih y this.1 this.2 l hl
   ·have:=zwa hx.2.1.1 y hy;exact ⟨this.1.2.2,fun l hl=>ih y.Ann this.2.1 this.2.2 l hl⟩) hlen (a.length+l+(d+1)+Int.toNat 0+Int.toNat 0+1) 0 0 (by omega) (by omega) (by omega)
  rw [show ((0:Nat):Int)=(0:Int) from rfl] at h1
  refine ⟨n', ?_,by omega,fun hn=> ?_⟩
  ·simp only [Wy.fin_i,Wy.fin_k,Wy.fin_bn,e0,cond_false,Int.toNat_natCast,h1,cond_true]
  ·obtain ⟨⟨h5,h12⟩,h6⟩:=h4 hn;rw [List.drop_zero] at h12;refine ⟨⟨by omega,fun t ht=> ?_⟩,by omega⟩
   obtain ⟨h7,h8⟩:=h6 t (by simpa using ht)
   refine ⟨by omega,fun f hf=> ?_⟩
   obtain ⟨h9,h10,h11⟩:=h8 f hf;exact ⟨⟨by omega,by omega,by omega⟩,h10,fun w hw=>⟨by have:=(h11 w hw).1; omega,(h11 w hw).2⟩⟩
theorem z3n (limit:Nat) (hl:limit≤1000) (l:yA) (hll:l.length≤1000) (hw:∀ a∈l,zhx a∧a.length≤roomLen):∀ (n i:Nat),l.length<i+n→i≤l.length→∃ r,zHY n limit l i=(true,r)∧((r=.inl false)∨(r=.inr ()∧∀ a∈l.drop i,zA 12 a∧zfl a≤limit))
 | 0,i,h1,h2=>by omega
 | n+1,i,h1,h2=>by
  show ∃ r,(zI7 limit l i).ev (fun x y=>zHY n x.1 x.2.1 x.2.2.1) (fun r=>(true,r)) (false,.inl default)=(true,r)∧_
  unfold zI7;by_cases hi:i<l.length
  ·obtain ⟨w,q1,q2,q3⟩:=z0X 12 1000 (by omega) (by omega) limit hl _ (hw _ (zS hi)).1 (hw _ (zS hi)).2
   have q1':zH3 (l.getD i default) (limit:Int) 12=(true,(w:Int)):=q1;simp only [Wy.ev_i,Wy.ev_k,Wy.ev_h,Wy.ev_bn,Wy.ev_d,tT,hi,q1',ztQ];by_cases hg:limit<w
   ·simp only [hg,decide_true,cond_true];exact ⟨_,rfl,.inl rfl⟩
   ·simp only [hg,decide_false,cond_false];rw [zbV (by omega)]
    obtain ⟨r,h3,h4⟩:=z3n limit hl l hll hw n (i+1) (by omega) (by omega)
    refine ⟨r,h3, ?_⟩;rcases h4 with h4 | ⟨h4,h5⟩
    ·exact .inl h4
    ·refine .inr ⟨h4,fun a ha=> ?_⟩
     rw [zbT hi] at ha;rcases qd.1 ha with rfl | ha
     ·exact ⟨(q3 (by omega)).1,by have:=(q3 (by omega)).2; omega⟩
     ·exact h5 a ha
  ·simp only [Wy.ev_i,Wy.ev_k,Wy.ev_h,Wy.ev_bn,Wy.ev_d,tT,hi];exact ⟨_,rfl,.inr ⟨rfl,fun a ha=>by rw [zez hi] at ha; cases ha⟩⟩
theorem zbab (limit:Nat) (hl:limit≤1000) (l:yA) (hll:l.length≤1000) (hw:∀ a∈l,zhx a∧a.length≤roomLen):∃ b,zxi limit l=(true,b)∧(b=true→∀ a∈l,zA 12 a∧zfl a≤limit):=by
 unfold zxi zVU;obtain ⟨r,h1,h2⟩:=z3n limit hl l hll hw (limit+l.length+Int.toNat 0+1) 0 (by omega) (by omega)
 rw [show ((0:Nat):Int)=(0:Int) from rfl] at h1
 rw [Wy.fin_bn];simp only [Int.toNat_natCast,h1,cond_true];rcases h2 with rfl | ⟨rfl,h2⟩
 ·exact ⟨false,rfl,fun h=>by cases h⟩
 ·exact ⟨true,rfl,fun _ a ha=>h2 a (by simpa using ha)⟩
mutual
def zjm:Atom→Nat
 | ⟨_,_,a,_,i,_,_⟩=>zey a+zdt i
def zbS:yD→Nat
 | []=>0
 | ⟨x,_⟩::r=>zjm x+zbS r
def zT:yC→Nat
 | []=>0
 | ⟨_,fs⟩::r=>1+fs.length+zbS fs+zT r
def zey:yA→Nat
 | []=>0
 | a::r=>zT a+zey r
def zdt:yE→Nat
 | []=>0
 | ⟨_,a⟩::r=>1+zT a+zdt r
end
theorem ziS (x:Atom):zjm x=zey x.Args+zdt x.Items:=by cases x; rw [zjm]
theorem zek (f:Factor) (r:yD):zbS (f::r)=zjm f.Atom+zbS r:=by cases f; rw [zbS]
theorem zlJ (t:Term) (r:yC):zT (t::r)=1+t.Factors.length+zbS t.Factors+zT r:=by cases t; rw [zT]
theorem zgT (a:yC) (r:yA):zey (a::r)=zT a+zey r:=by rw [zey]
theorem ziV (w:Weighted) (r:yE):zdt (w::r)=1+zT w.Ann+zdt r:=by cases w; rw [zdt]
theorem zoq:zey []=0:=by rw [zey]
theorem zl2:zdt []=0:=by rw [zdt]
theorem ztI:zbS []=0:=by rw [zbS]
theorem zG3:zT []=0:=by rw [zT]
theorem zYi (l:yA):∀ n:Nat,l.foldl (fun s t=>s+zT t) n=n+zey l:=by
 induction l with
 | nil=>intro n; rw [zoq]; rfl
 | cons a r ih=>intro n; rw [List.foldl_cons,ih,zgT]; omega
theorem zV3 (l:yE):∀ n:Nat,l.foldl (fun s t=>s+1+zT t.Ann) n=n+zdt l:=by
 induction l with
 | nil=>intro n; rw [zl2]; rfl
 | cons a r ih=>intro n; rw [List.foldl_cons,ih,ziV]; omega
theorem z1q (l:yD):∀ n:Nat,l.foldl (fun s t=>s+zjm t.Atom) n=n+zbS l:=by
 induction l with
 | nil=>intro n; rw [ztI]; rfl
 | cons a r ih=>intro n; rw [List.foldl_cons,ih,zek]; omega
theorem z07 (l:yC):∀ n:Nat,l.foldl (fun s t=>s+1+t.Factors.length+zbS t.Factors) n=n+zT l:=by
 induction l with
 | nil=>intro n; rw [zG3]; rfl
 | cons a r ih=>intro n; rw [List.foldl_cons,ih,zlJ]; omega
theorem zsK {n m:Nat} (h:n+m≤4611686018427387904):IntKind.i64.wrap ((n:Int)+(m:Int))=((n+m:Nat):Int):=by
 rw [zT0 (by omega) (by omega)]; omega
theorem zfO {i:Nat} (h:i<4611686018427387904):IntKind.i64.wrap ((i:Int)+1)=((i+1:Nat):Int):=zbV h
section
variable (g:yC→Bool×Int)
theorem z8K (l:yA) (hl:l.length≤1000000) (hg:∀ y∈l,g y=(true,(zT y:Int))) (t12:yC) (t13 t14:Int) (t25:yD) (t26 t27:Int) (f:Factor) (fuel n:Nat) (hf:l.length<fuel) (hn:n+zey l≤4611686018427387904):
  zAx g fuel n t12 t13 t14 t25 t26 t27 l l.length 0 f=(true,(((n+zey l:Nat):Int),t12,t13,t14,t25,t26,t27,f)):=by
 have h:=zep (W:=ztF g) (z:=default) (l:=l) (fun i (n:Nat)=>((n:Int),(),t12,t13,t14,t25,t26,t27,l,(l.length:Int),(i:Int),())) (fun _ _=>(f,())) (fun y n=>.inl (n+zT y)) (fun n=>((n:Int),t12,t13,t14,t25,t26,t27,f)) (fun i n=>n+zey (l.drop i)≤4611686018427387904)
  (fun i n hi hI=>.inl ⟨_,rfl,by rw [zbT hi,zgT] at hI; omega,fun H K D=>by
   rw [zbT hi,zgT] at hI;show (zjB g n t12 t13 t14 t25 t26 t27 l l.length i f).ev H K D=_;unfold zjB;simp only [Wy.ev_i,Wy.ev_k,Wy.ev_h,Wy.ev_bn,Wy.ev_d,tT,hi,hg _ (zS hi)];rw [zsK (by omega),zfO (by omega)]⟩)
  (fun n hI H K D=>by
   show (zjB g n t12 t13 t14 t25 t26 t27 l l.length l.length f).ev H K D=_;unfold zjB;simp only [Wy.ev_i,Wy.ev_k,tT,Nat.lt_irrefl]) fuel 0 n (by omega) (Nat.zero_le _) (by simpa using hn)
 rw [List.drop_zero,zen,zYi] at h;exact h
theorem z8I (l:yE) (hl:l.length≤1000000) (hg:∀ y∈l,g y.Ann=(true,(zT y.Ann:Int))) (t12:yC) (t13 t14:Int) (t25:yD) (t26 t27:Int) (fuel n:Nat) (hf:l.length<fuel) (hn:n+zdt l≤4611686018427387904):
  zAd g fuel n t12 t13 t14 t25 t26 t27 l l.length 0=(true,(((n+zdt l:Nat):Int),t12,t13,t14,t25,t26,t27)):=by
 have h:=zep (W:=ztS g) (z:=default) (l:=l) (fun i (n:Nat)=>((n:Int),t12,t13,t14,t25,t26,t27,l,(l.length:Int),(i:Int),())) (fun _ _=>()) (fun y n=>.inl (n+1+zT y.Ann)) (fun n=>((n:Int),t12,t13,t14,t25,t26,t27)) (fun i n=>n+zdt (l.drop i)≤4611686018427387904)
  (fun i n hi hI=>.inl ⟨_,rfl,by rw [zbT hi,ziV] at hI; omega,fun H K D=>by
   rw [zbT hi,ziV] at hI;show (zjk g n t12 t13 t14 t25 t26 t27 l l.length i).ev H K D=_;unfold zjk;simp only [Wy.ev_i,Wy.ev_k,Wy.ev_h,Wy.ev_bn,Wy.ev_d,tT,hi,hg _ (zS hi)];rw [zfO (by omega),show (1:Int)=((1:Nat):Int) from rfl,zsK (by omega),zsK (by omega), ← Nat.add_assoc]⟩)
  (fun n hI H K D=>by
   show (zjk g n t12 t13 t14 t25 t26 t27 l l.length l.length).ev H K D=_;unfold zjk;simp only [Wy.ev_i,Wy.ev_k,tT,Nat.lt_irrefl]) fuel 0 n (by omega) (Nat.zero_le _) (by simpa using hn)
 rw [List.drop_zero,zen,zV3] at h;exact h
theorem z9X (l:yD) (hl:l.length≤1000000) (hg:∀ f∈l,(f.Atom.Args.length≤1000000∧f.Atom.Items.length≤1000000)∧(∀ y∈f.Atom.Args,g y=(true,(zT y:Int)))∧∀ y∈f.Atom.Items,g y.Ann=(true,(zT y.Ann:Int))) (t12:yC) (t13 t14:Int) (fuel n:Nat) (hf:l.length<fuel) (hn:n+zbS l≤4611686018427387904):
  zA4 g fuel n t12 t13 t14 l l.length 0=(true,(((n+zbS l:Nat):Int),t12,t13,t14)):=by
 have h:=zep (W:=zuS g) (z:=default) (l:=l) (fun i (n:Nat)=>((n:Int),t12,t13,t14,l,(l.length:Int),(i:Int),())) (fun _ _=>()) (fun y n=>.inl (n+zjm y.Atom)) (fun n=>((n:Int),t12,t13,t14)) (fun i n=>n+zbS (l.drop i)≤4611686018427387904)
  (fun i n hi hI=>.inl ⟨_,rfl,by rw [zbT hi,zek] at hI; omega,fun H K D=>by
   rw [zbT hi,zek,ziS] at hI;obtain ⟨⟨h1,h2⟩,h3,h4⟩:=hg _ (zS hi);show (zjV g n t12 t13 t14 l l.length i).ev H K D=_;unfold zjV;simp only [Wy.ev_i,Wy.ev_k,Wy.ev_h,Wy.ev_bn,Wy.ev_d,tT,hi,Atom.eta];rw [z8K g _ h1 h3 _ _ _ _ _ _ _ _ _ (by omega) (by omega)]
   simp only [cond_true,Int.toNat_natCast];rw [z8I g _ h2 h4 _ _ _ _ _ _ _ _ (by omega) (by omega)]
   simp only [cond_true];rw [zfO (by omega),ziS,Nat.add_assoc]⟩)
  (fun n hI H K D=>by
   show (zjV g n t12 t13 t14 l l.length l.length).ev H K D=_;unfold zjV;simp only [Wy.ev_i,Wy.ev_k,tT,Nat.lt_irrefl]) fuel 0 n (by omega) (Nat.zero_le _) (by simpa using hn)
 rw [List.drop_zero,zen,z1q] at h;exact h
theorem z9w (l:yC) (hl:l.length≤1000000) (hg:∀ t∈l,t.Factors.length≤1000000∧∀ f∈t.Factors,(f.Atom.Args.length≤1000000∧f.Atom.Items.length≤1000000)∧(∀ y∈f.Atom.Args,g y=(true,(zT y:Int)))∧∀ y∈f.Atom.Items,g y.Ann=(true,(zT y.Ann:Int))) (fuel n:Nat) (hf:l.length<fuel) (hn:n+zT l≤4611686018427387904):
  zBr g fuel n l l.length 0=(true,((n+zT l:Nat):Int)):=by
 have h:=zep (W:=zvc g) (z:=default) (l:=l) (fun i (n:Nat)=>((n:Int),l,(l.length:Int),(i:Int),())) (fun _ _=>()) (fun y n=>.inl (n+1+y.Factors.length+zbS y.Factors)) (fun n=>(n:Int)) (fun i n=>n+zT (l.drop i)≤4611686018427387904)
  (fun i n hi hI=>.inl ⟨_,rfl,by rw [zbT hi,zlJ] at hI; omega,fun H K D=>by
   rw [zbT hi,zlJ] at hI;obtain ⟨h1,h3⟩:=hg _ (zS hi);show (zjZ g n l l.length i).ev H K D=_;unfold zjZ;simp only [Wy.ev_i,Wy.ev_k,Wy.ev_h,Wy.ev_bn,Wy.ev_d,tT,hi,Atom.eta];rw [show (1:Int)=((1:Nat):Int) from rfl,zsK (n:=1) (by omega),zsK (by omega)]
   rw [z9X g _ h1 h3 _ _ _ _ _ (by omega) (by omega)]
   simp only [cond_true];rw [show ((1:Nat):Int)=(1:Int) from rfl,zfO (by omega),Nat.add_assoc n 1]⟩)
  (fun n hI H K D=>by
   show (zjZ g n l l.length l.length).ev H K D=_;unfold zjZ;simp only [Wy.ev_i,Wy.ev_k,tT,Nat.lt_irrefl]) fuel 0 n (by omega) (Nat.zero_le _) (by simpa using hn)
 rw [List.drop_zero,zen,z07] at h;exact h
theorem z7X (x:Atom) (hl:x.Args.length≤1000000) (hg:∀ y∈x.Args,g y=(true,(zT y:Int))) (a:yC) (i k:Int) (fuel n:Nat) (hf:x.Args.length<fuel) (hn:n+zey x.Args≤4611686018427387904):
  zJm g fuel a n i k 0 x=(true,(a,((n+zey x.Args:Nat):Int),i,k,x)):=by
 have h:=zep (W:=zzX g) (z:=default) (l:=x.Args) (fun j (n:Nat)=>(a,(n:Int),i,k,(),(j:Int),())) (fun _ _=>(x,())) (fun y n=>.inl (n+zT y)) (fun n=>(a,(n:Int),i,k,x)) (fun i n=>n+zey (x.Args.drop i)≤4611686018427387904)
  (fun j n hi hI=>.inl ⟨_,rfl,by rw [zbT hi,zgT] at hI; omega,fun H K D=>by
   rw [zbT hi,zgT] at hI;show (zpW g a n i k j x).ev H K D=_;unfold zpW;simp only [Wy.ev_i,Wy.ev_k,Wy.ev_h,Wy.ev_bn,Wy.ev_d,tT,hi,hg _ (zS hi)];rw [zsK (by omega),zfO (by omega)]⟩)
  (fun n hI H K D=>by
   show (zpW g a n i k x.Args.length x).ev H K D=_;unfold zpW;simp only [Wy.ev_i,Wy.ev_k,tT,Nat.lt_irrefl]) fuel 0 n (by omega) (Nat.zero_le _) (by simpa using hn)
 rw [List.drop_zero,zen,zYi] at h;exact h
theorem z8a (x:Atom) (hl:x.Items.length≤1000000) (hg:∀ y∈x.Items,g y.Ann=(true,(zT y.Ann:Int))) (a:yC) (i k:Int) (fuel n:Nat) (hf:x.Items.length<fuel) (hn:n+zdt x.Items≤4611686018427387904):
  zIS g fuel a n i k 0 x=(true,(a,((n+zdt x.Items:Nat):Int),i,k)):=by
 have h:=zep (W:=zzL g) (z:=default) (l:=x.Items) (fun j (n:Nat)=>(a,(n:Int),i,k,(),(j:Int),())) (fun _ _=>(x,())) (fun y n=>.inl (n+1+zT y.Ann)) (fun n=>(a,(n:Int),i,k)) (fun i n=>n+zdt (x.Items.drop i)≤4611686018427387904)
  (fun j n hi hI=>.inl ⟨_,rfl,by rw [zbT hi,ziV] at hI; omega,fun H K D=>by
   rw [zbT hi,ziV] at hI;show (zo6 g a n i k j x).ev H K D=_;unfold zo6;simp only [Wy.ev_i,Wy.ev_k,Wy.ev_h,Wy.ev_bn,Wy.ev_d,tT,hi,hg _ (zS hi)];rw [zfO (i:=j) (by omega),zfO (i:=n) (by omega),zsK (by omega)]⟩)
  (fun n hI H K D=>by
   show (zo6 g a n i k x.Items.length x).ev H K D=_;unfold zo6;simp only [Wy.ev_i,Wy.ev_k,tT,Nat.lt_irrefl]) fuel 0 n (by omega) (Nat.zero_le _) (by simpa using hn)
 rw [List.drop_zero,zen,zV3] at h;exact h
theorem zJo:∀ (a:yC) (i:Nat),i<a.length→(a.getD i default).Factors.length≤szTs a
 | [],i,h=>by simp at h
 | t::r,0,h=>by
  have:∀ l:yD,l.length≤szFs l:=fun l=>by
   induction l with
   | nil=>exact Nat.le_refl _
   | cons f r ih=>simp only [szFs,qf]; omega
  have:=this t.Factors;simp only [szTs,List.getD_cons_zero]; omega
 | t::r,i+1,h=>by
  have:=zJo r i (by simpa using h)
  simp only [szTs,List.getD_cons_succ]; omega
theorem foldl_factors' (l:yD):∀ n:Nat,l.foldl (fun s t=>s+1+zjm t.Atom) n=n+l.length+zbS l:=by
 induction l with
 | nil=>intro n; rw [ztI]; rfl
 | cons a r ih=>intro n; rw [List.foldl_cons,ih,zek,qf]; omega
theorem z8A (a:yC) (i:Nat) (hi:i<a.length) (hla:a.length≤1000000) (l:yD) (el:(a.getD i default).Factors=l) (hl:l.length≤1000000) (hg:∀ f∈l,(f.Atom.Args.length≤1000000∧f.Atom.Items.length≤1000000)∧(∀ y∈f.Atom.Args,g y=(true,(zT y:Int)))∧∀ y∈f.Atom.Items,g y.Ann=(true,(zT y.Ann:Int))) (fuel n:Nat) (hf:l.length<fuel) (hn:n+l.length+zbS l≤4611686018427387904):
  zKw g fuel a n i 0=(true,(a,((n+l.length+zbS l:Nat):Int),(i:Int))):=by
 have h:=zep (W:=zBh g) (z:=default) (l:=l) (fun k (n:Nat)=>(a,(n:Int),(i:Int),(k:Int),())) (fun _ _=>()) (fun y n=>.inl (n+1+zjm y.Atom)) (fun n=>(a,(n:Int),(i:Int))) (fun k n=>n+(l.drop k).length+zbS (l.drop k)≤4611686018427387904)
  (fun k n hk hI=>.inl ⟨_,rfl,by rw [zbT hk,zek,qf] at hI; omega,fun H K D=>by
   rw [zbT hk,zek,ziS,qf] at hI;obtain ⟨⟨h1,h2⟩,h3,h4⟩:=hg _ (zS hk);show (zrE g a n i k).ev H K D=_;unfold zrE;simp only [Wy.ev_i,Wy.ev_k,Wy.ev_h,Wy.ev_bn,Wy.ev_d,tT,hi,el,hk,Atom.eta];rw [zfO (i:=n) (by omega)]
   rw [z7X g _ h1 h3 _ _ _ _ _ (by omega) (by omega)]
   simp only [cond_true,Int.toNat_natCast,Atom.eta];rw [z8a g _ h2 h4 _ _ _ _ _ (by omega) (by omega)]
   simp only [cond_true];rw [zfO (by omega),ziS,Nat.add_assoc (n+1)]⟩)
  (fun n hI H K D=>by
   show (zrE g a n i l.length).ev H K D=_;unfold zrE;simp only [Wy.ev_i,Wy.ev_k,tT,hi,el,Nat.lt_irrefl]) fuel 0 n (by omega) (Nat.zero_le _) (by simpa using hn)
 rw [List.drop_zero,zen,foldl_factors'] at h;exact h
theorem z8D (l:yC) (hl:l.length≤1000000) (hg:∀ t∈l,t.Factors.length≤1000000∧∀ f∈t.Factors,(f.Atom.Args.length≤1000000∧f.Atom.Items.length≤1000000)∧(∀ y∈f.Atom.Args,g y=(true,(zT y:Int)))∧∀ y∈f.Atom.Items,g y.Ann=(true,(zT y.Ann:Int))) (fuel n:Nat) (hf:l.length<fuel) (hn:n+zT l≤4611686018427387904):
  zKB g fuel l n 0=(true,((n+zT l:Nat):Int)):=by
 have h:=zep (W:=zBc g) (z:=default) (l:=l) (fun i (n:Nat)=>(l,(n:Int),(i:Int),())) (fun _ _=>()) (fun y n=>.inl (n+1+y.Factors.length+zbS y.Factors)) (fun n=>(n:Int)) (fun i n=>n+zT (l.drop i)≤4611686018427387904)
  (fun i n hi hI=>.inl ⟨_,rfl,by rw [zbT hi,zlJ] at hI; omega,fun H K D=>by
   rw [zbT hi,zlJ] at hI;obtain ⟨h1,h3⟩:=hg _ (zS hi);have hz:=zJo l i hi;show (zsb g l n i).ev H K D=_;unfold zsb;simp only [Wy.ev_i,Wy.ev_k,Wy.ev_h,Wy.ev_bn,Wy.ev_d,tT,hi,Atom.eta];rw [zfO (i:=n) (by omega)]
   rw [z8A g l i hi hl _ rfl h1 h3 _ _ (by omega) (by omega)]
   simp only [cond_true];rw [zfO (by omega)]⟩)
  (fun n hI H K D=>by
   show (zsb g l n l.length).ev H K D=_;unfold zsb;simp only [Wy.ev_i,Wy.ev_k,tT,Nat.lt_irrefl]) fuel 0 n (by omega) (Nat.zero_le _) (by simpa using hn)
 rw [List.drop_zero,zen,z07] at h;exact h
end
theorem z4m {l:yA} {y:yC} (h:y∈l):zT y≤zey l:=by
 induction l with
 | nil=>cases h
 | cons a r ih=>
  rw [zgT];rcases qd.1 h with rfl | h
  ·omega
  ·have:=ih h; omega
theorem z2j {l:yE} {y:Weighted} (h:y∈l):zT y.Ann≤zdt l:=by
 induction l with
 | nil=>cases h
 | cons a r ih=>
  rw [ziV];rcases qd.1 h with rfl | h
  ·omega
  ·have:=ih h; omega
theorem zNJ {l:yD} {y:Factor} (h:y∈l):zjm y.Atom≤zbS l:=by
 induction l with
 | nil=>cases h
 | cons a r ih=>
  rw [zek];rcases qd.1 h with rfl | h
  ·omega
  ·have:=ih h; omega
theorem z5M {l:yC} {y:Term} (h:y∈l):zbS y.Factors≤zT l:=by
 induction l with
 | nil=>cases h
 | cons a r ih=>
  rw [zlJ];rcases qd.1 h with rfl | h
  ·omega
  ·have:=ih h; omega
theorem zZP {a:yC} {t:Term} {f:Factor} (ht:t∈a) (hf:f∈t.Factors):zey f.Atom.Args+zdt f.Atom.Items≤zT a:=by
 have h1:=z5M ht; have h2:=zNJ hf; rw [ziS] at h2; omega
theorem zLY {d:Nat} {a:yC} (h:zA (d+1) a) {t:Term} (ht:t∈a):t.Factors.length≤1000000∧∀ f∈t.Factors,(f.Atom.Args.length≤1000000∧f.Atom.Items.length≤1000000)∧(∀ y∈f.Atom.Args,zA d y)∧∀ y∈f.Atom.Items,zA d y.Ann:=
 ⟨(h.2 t ht).1,fun f hf=>have q:=(h.2 t ht).2 f hf; ⟨⟨q.1.1,q.1.2.1⟩,q.2.1,fun y hy=>(q.2.2 y hy).2⟩⟩
theorem zW4:∀ (n d:Nat) (a:yC),zA d a→d≤n→zT a≤4611686018427387904→zkC n a=(true,(zT a:Int))∧ztM n a=(true,(zT a:Int))
 | n,0,a,h,hd,hs=>h.elim
 | 0,d+1,a,h,hd,hs=>by omega
 | n+1,d+1,a,h,hd,hs=>by
  have hg:=fun y (hy:zA d y) (hs:zT y≤4611686018427387904)=>zW4 n d y hy (by omega) hs
  have hsub:∀ t∈a,t.Factors.length≤1000000∧∀ f∈t.Factors,(f.Atom.Args.length≤1000000∧f.Atom.Items.length≤1000000)∧(∀ y∈f.Atom.Args,zA d y∧zT y≤4611686018427387904)∧∀ y∈f.Atom.Items,zA d y.Ann∧zT y.Ann≤4611686018427387904:=fun t ht=>by
   obtain ⟨h1,h2⟩:=zLY h ht;refine ⟨h1,fun f hf=> ?_⟩
   obtain ⟨h3,h4,h5⟩:=h2 f hf;have h6:=zZP ht hf;exact ⟨h3,fun y hy=>⟨h4 y hy,by have:=z4m hy; omega⟩,fun y hy=>⟨h5 y hy,by have:=z2j hy; omega⟩⟩
  constructor
  ·rw [zO6];unfold zsX zCn
   have h1:=z9w (zkC n) a h.1 (fun t ht=>⟨(hsub t ht).1,fun f hf=>⟨((hsub t ht).2 f hf).1,fun y hy=>(hg y (((hsub t ht).2 f hf).2.1 y hy).1 (((hsub t ht).2 f hf).2.1 y hy).2).1,fun y hy=>(hg _ (((hsub t ht).2 f hf).2.2 y hy).1 (((hsub t ht).2 f hf).2.2 y hy).2).1⟩⟩)
    (Int.toNat 0+a.length+(Int.ofNat a.length).toNat +Int.toNat 0+1) 0 (by omega) (by omega)
   rw [show ((0:Nat):Int)=(0:Int) from rfl,Nat.zero_add] at h1
   rw [Wy.fin_bn,show Int.ofNat a.length=(a.length:Int) from rfl] at *
   rw [h1]; rfl
  ·rw [zZc];unfold zBt zM3
   have h1:=z8D (ztM n) a h.1 (fun t ht=>⟨(hsub t ht).1,fun f hf=>⟨((hsub t ht).2 f hf).1,fun y hy=>(hg y (((hsub t ht).2 f hf).2.1 y hy).1 (((hsub t ht).2 f hf).2.1 y hy).2).2,fun y hy=>(hg _ (((hsub t ht).2 f hf).2.2 y hy).1 (((hsub t ht).2 f hf).2.2 y hy).2).2⟩⟩)
    (a.length+Int.toNat 0+Int.toNat 0+1+szTs a) 0 (by omega) (by omega)
   rw [show ((0:Nat):Int)=(0:Int) from rfl,Nat.zero_add] at h1
   rw [Wy.fin_bn,h1]; rfl
mutual
def zmJ:Atom→Nat
 | ⟨k,_,a,_,i,_,_⟩=>if k=0 then 0 else 1+max (zlp a) (zky i)
def zc8:yD→Nat
 | []=>0
 | ⟨x,_⟩::r=>max (zmJ x) (zc8 r)
def zbu:yC→Nat
 | []=>0
 | ⟨_,fs⟩::r=>max (zc8 fs) (zbu r)
def zlp:yA→Nat
 | []=>0
 | a::r=>max (zbu a) (zlp r)
def zky:yE→Nat
 | []=>0
 | ⟨_,a⟩::r=>max (zbu a) (zky r)
end
theorem zBi (x:Atom):zmJ x=if x.Kind=0 then 0 else 1+max (zlp x.Args) (zky x.Items):=by cases x; rw [zmJ]
theorem zrL (f:Factor) (r:yD):zc8 (f::r)=max (zmJ f.Atom) (zc8 r):=by cases f; rw [zc8]
theorem zMc (t:Term) (r:yC):zbu (t::r)=max (zc8 t.Factors) (zbu r):=by cases t; rw [zbu]
theorem zBz (a:yC) (r:yA):zlp (a::r)=max (zbu a) (zlp r):=by rw [zlp]
theorem zzA (w:Weighted) (r:yE):zky (w::r)=max (zbu w.Ann) (zky r):=by cases w; rw [zky]
theorem zLA:zlp []=0:=by rw [zlp]
theorem zIg:zky []=0:=by rw [zky]
theorem zC9:zc8 []=0:=by rw [zc8]
theorem zX8:zbu []=0:=by rw [zbu]
theorem z5O (l:yA):∀ n:Nat,l.foldl (fun s t=>max s (zbu t)) n=max n (zlp l):=by
 induction l with
 | nil=>intro n; rw [zLA]; exact (Nat.max_zero n).symm
 | cons a r ih=>intro n; rw [List.foldl_cons,ih,zBz]; omega
theorem z4r (l:yE):∀ n:Nat,l.foldl (fun s t=>max s (zbu t.Ann)) n=max n (zky l):=by
 induction l with
 | nil=>intro n; rw [zIg]; exact (Nat.max_zero n).symm
 | cons a r ih=>intro n; rw [List.foldl_cons,ih,zzA]; omega
theorem z4s (l:yA):∀ n:Nat,l.foldl (fun s t=>max s (1+zbu t)) (1+n)=1+max n (zlp l):=by
 induction l with
 | nil=>intro n; rw [zLA]; simp
 | cons a r ih=>intro n; rw [List.foldl_cons,show max (1+n) (1+zbu a)=1+max n (zbu a) by omega,ih,zBz]; omega
theorem z3K (l:yE):∀ n:Nat,l.foldl (fun s t=>max s (1+zbu t.Ann)) (1+n)=1+max n (zky l):=by
 induction l with
 | nil=>intro n; rw [zIg]; simp
 | cons a r ih=>intro n; rw [List.foldl_cons,show max (1+n) (1+zbu a.Ann)=1+max n (zbu a.Ann) by omega,ih,zzA]; omega
theorem zP6 (l:yD):∀ n:Nat,l.foldl (fun s t=>max s (zmJ t.Atom)) n=max n (zc8 l):=by
 induction l with
 | nil=>intro n; rw [zC9]; exact (Nat.max_zero n).symm
 | cons a r ih=>intro n; rw [List.foldl_cons,ih,zrL]; omega
theorem z0W (l:yC):∀ n:Nat,l.foldl (fun s t=>max s (zc8 t.Factors)) n=max n (zbu l):=by
 induction l with
 | nil=>intro n; rw [zX8]; exact (Nat.max_zero n).symm
 | cons a r ih=>intro n; rw [List.foldl_cons,ih,zMc]; omega
theorem zTV (a b:Nat):(if (a:Int)>(b:Int) then (a:Int) else (b:Int))=((max b a:Nat):Int):=by split <;>omega
theorem zYG {d:Nat}:∀ l:yA,(∀ y∈l,zbu y≤d)→zlp l≤d:=fun l=>by
 induction l with
 | nil=>intro _; rw [zLA]; omega
 | cons y r ih=>intro hy; rw [zBz]; have h1:=hy y (by simp); have h2:=ih fun z hz=>hy z (by simp [hz]); omega
theorem zV8 {d:Nat}:∀ l:yE,(∀ y∈l,zbu y.Ann≤d)→zky l≤d:=fun l=>by
 induction l with
 | nil=>intro _; rw [zIg]; omega
 | cons y r ih=>intro hy; rw [zzA]; have h1:=hy y (by simp); have h2:=ih fun z hz=>hy z (by simp [hz]); omega
theorem z1s {d:Nat}:∀ l:yD,(∀ y∈l,zmJ y.Atom≤d)→zc8 l≤d:=fun l=>by
 induction l with
 | nil=>intro _; rw [zC9]; omega
 | cons y r ih=>intro hy; rw [zrL]; have h1:=hy y (by simp); have h2:=ih fun z hz=>hy z (by simp [hz]); omega
theorem z61 {d:Nat}:∀ l:yC,(∀ y∈l,zc8 y.Factors≤d)→zbu l≤d:=fun l=>by
 induction l with
 | nil=>intro _; rw [zX8]; omega
 | cons y r ih=>intro hy; rw [zMc]; have h1:=hy y (by simp); have h2:=ih fun z hz=>hy z (by simp [hz]); omega
theorem zOe:∀ (d:Nat) (a:yC),zA d a→zbu a≤d
 | 0,a,h=>h.elim
 | d+1,a,h=>z61 a fun t ht=>z1s _ fun f hf=>by
  obtain ⟨_,h2⟩:=zLY h ht;obtain ⟨_,h4,h5⟩:=h2 f hf;have q1:=zYG f.Atom.Args fun y hy=>zOe d y (h4 y hy)
  have q2:=zV8 f.Atom.Items fun y hy=>zOe d y.Ann (h5 y hy)
  rw [zBi]; split <;>omega
section
variable (g:yC→Bool×Int)
theorem z9V (l:yA) (hl:l.length≤1000000) (hg:∀ y∈l,g y=(true,(zbu y:Int))) (nn:Int) (t13:yC) (t14 t15:Int) (t20:yD) (t21 t22:Int) (f:Factor) (fuel n:Nat) (hf:l.length<fuel):
  zxH g fuel nn n t13 t14 t15 t20 t21 t22 l l.length 0 f=(true,(nn,((max n (zlp l):Nat):Int),t13,t14,t15,t20,t21,t22,f)):=by
 have h:=zep (W:=zo3 g) (z:=default) (l:=l) (fun i (n:Nat)=>(nn,(),(n:Int),t13,t14,t15,t20,t21,t22,l,(l.length:Int),(i:Int),())) (fun _ _=>(f,())) (fun y n=>.inl (max n (zbu y))) (fun n=>(nn,(n:Int),t13,t14,t15,t20,t21,t22,f)) (fun i n=>True)
  (fun i n hi hI=>.inl ⟨_,rfl,trivial,fun H K D=>by
   show (zg7 g nn n t13 t14 t15 t20 t21 t22 l l.length i f).ev H K D=_;unfold zg7;simp only [Wy.ev_i,Wy.ev_k,Wy.ev_h,Wy.ev_bn,Wy.ev_d,tT,hi,hg _ (zS hi),zTV];rw [zfO (by omega)]⟩)
  (fun n hI H K D=>by
   show (zg7 g nn n t13 t14 t15 t20 t21 t22 l l.length l.length f).ev H K D=_;unfold zg7;simp only [Wy.ev_i,Wy.ev_k,tT,Nat.lt_irrefl]) fuel 0 n (by omega) (Nat.zero_le _) trivial
 rw [List.drop_zero,zen,z5O] at h;exact h
theorem z9J (l:yE) (hl:l.length≤1000000) (hg:∀ y∈l,g y.Ann=(true,(zbu y.Ann:Int))) (nn:Int) (t13:yC) (t14 t15:Int) (t20:yD) (t21 t22:Int) (fuel n:Nat) (hf:l.length<fuel):
  zxl g fuel nn n t13 t14 t15 t20 t21 t22 l l.length 0=(true,(nn,((max n (zky l):Nat):Int),t13,t14,t15,t20,t21,t22)):=by
 have h:=zep (W:=zpd g) (z:=default) (l:=l) (fun i (n:Nat)=>(nn,(n:Int),t13,t14,t15,t20,t21,t22,l,(l.length:Int),(i:Int),())) (fun _ _=>()) (fun y n=>.inl (max n (zbu y.Ann))) (fun n=>(nn,(n:Int),t13,t14,t15,t20,t21,t22)) (fun i n=>True)
  (fun i n hi hI=>.inl ⟨_,rfl,trivial,fun H K D=>by
   show (zgZ g nn n t13 t14 t15 t20 t21 t22 l l.length i).ev H K D=_;unfold zgZ;simp only [Wy.ev_i,Wy.ev_k,Wy.ev_h,Wy.ev_bn,Wy.ev_d,tT,hi,hg _ (zS hi),zTV];rw [zfO (by omega)]⟩)
  (fun n hI H K D=>by
   show (zgZ g nn n t13 t14 t15 t20 t21 t22 l l.length l.length).ev H K D=_;unfold zgZ;simp only [Wy.ev_i,Wy.ev_k,tT,Nat.lt_irrefl]) fuel 0 n (by omega) (Nat.zero_le _) trivial
 rw [List.drop_zero,zen,z4r] at h;exact h
def NesG (x:Atom):Prop:=(x.Args.length≤1000000∧x.Items.length≤1000000)∧(zmJ x≤1000∧(∀ y∈x.Args,zbu y≤1000)∧∀ y∈x.Items,zbu y.Ann≤1000)∧(∀ y∈x.Args,g y=(true,(zbu y:Int)))∧∀ y∈x.Items,g y.Ann=(true,(zbu y.Ann:Int))
theorem zbaj (l:yD) (hl:l.length≤1000000) (hg:∀ f∈l,NesG g f.Atom) (t13:yC) (t14 t15:Int) (fuel n:Nat) (hf:l.length<fuel):
  zyG g fuel n t13 t14 t15 l l.length 0=(true,(((max n (zc8 l):Nat):Int),t13,t14,t15)):=by
 have h:=zep (W:=zrh g) (z:=default) (l:=l) (fun i (n:Nat)=>((n:Int),t13,t14,t15,l,(l.length:Int),(i:Int),())) (fun _ _=>()) (fun y n=>.inl (max n (zmJ y.Atom))) (fun n=>((n:Int),t13,t14,t15)) (fun i n=>True)
  (fun i n hi hI=>.inl ⟨_,rfl,trivial,fun H K D=>by
   obtain ⟨⟨h1,h2⟩,⟨h5,_,_⟩,h3,h4⟩:=hg _ (zS hi);show (zhP g n t13 t14 t15 l l.length i).ev H K D=_;unfold zhP;simp only [Wy.ev_i,Wy.ev_k,Wy.ev_h,Wy.ev_bn,Wy.ev_d,tT,hi,Atom.eta];generalize l.getD i default=f at *;rw [zBi] at h5 ⊢;by_cases hk:f.Atom.Kind=0
   ·have e:(f.Atom.Kind==0)=true:=by simp [hk]
    simp only [e,cond_true];rw [if_pos hk,Nat.max_zero,zfO (by omega)]
   ·have e:(f.Atom.Kind==0)=false:=by simp [hk]
    simp only [e,cond_false];rw [if_neg hk] at h5 ⊢;have q:=fun fuel hf=>z9V g _ h1 h3 n t13 t14 t15 l l.length i f fuel 0 hf
    rw [Nat.zero_max,show ((0:Nat):Int)=(0:Int) from rfl] at q
    rw [q _ (by omega)]
    simp only [cond_true,Int.toNat_natCast];rw [z9J g _ h2 h4 n t13 t14 t15 l l.length i _ _ (by omega)]
    simp only [cond_true];rw [zfO (by omega),show (1:Int)=((1:Nat):Int) from rfl,zsK (n:=1) (by omega),zTV]⟩)
  (fun n hI H K D=>by
   show (zhP g n t13 t14 t15 l l.length l.length).ev H K D=_;unfold zhP;simp only [Wy.ev_i,Wy.ev_k,tT,Nat.lt_irrefl]) fuel 0 n (by omega) (Nat.zero_le _) trivial
 rw [List.drop_zero,zen,zP6] at h;exact h
theorem zbaw (l:yC) (hl:l.length≤1000000) (hg:∀ t∈l,t.Factors.length≤1000000∧∀ f∈t.Factors,NesG g f.Atom) (fuel n:Nat) (hf:l.length<fuel):
  zyC g fuel n l l.length 0=(true,((max n (zbu l):Nat):Int)):=by
 have h:=zep (W:=zrj g) (z:=default) (l:=l) (fun i (n:Nat)=>((n:Int),l,(l.length:Int),(i:Int),())) (fun _ _=>()) (fun y n=>.inl (max n (zc8 y.Factors))) (fun n=>(n:Int)) (fun i n=>True)
  (fun i n hi hI=>.inl ⟨_,rfl,trivial,fun H K D=>by
   obtain ⟨h1,h3⟩:=hg _ (zS hi);show (zh2 g n l l.length i).ev H K D=_;unfold zh2;simp only [Wy.ev_i,Wy.ev_k,Wy.ev_h,Wy.ev_bn,Wy.ev_d,tT,hi,Atom.eta];rw [zbaj g _ h1 h3 _ _ _ _ _ (by omega)]
   simp only [cond_true];rw [zfO (by omega)]⟩)
  (fun n hI H K D=>by
   show (zh2 g n l l.length l.length).ev H K D=_;unfold zh2;simp only [Wy.ev_i,Wy.ev_k,tT,Nat.lt_irrefl]) fuel 0 n (by omega) (Nat.zero_le _) trivial
 rw [List.drop_zero,zen,z0W] at h;exact h
theorem z8Z (x:Atom) (hx:NesG g x) (a:yC) (most i k:Int) (fuel n:Nat) (hf:x.Args.length<fuel):
  zwx g fuel a most i k ((1+n:Nat):Int) 0 x=(true,(a,most,i,k,((1+max n (zlp x.Args):Nat):Int),x)):=by
 obtain ⟨⟨h1,h2⟩,⟨h5,h6,h7⟩,h3,h4⟩:=hx
 have h:=zep (W:=zws g) (z:=default) (l:=x.Args) (fun j (n:Nat)=>(a,most,i,k,(),(n:Int),(j:Int),())) (fun _ _=>(x,())) (fun y n=>.inl (max n (1+zbu y))) (fun n=>(a,most,i,k,(n:Int),x)) (fun i n=>True)
  (fun j n hi hI=>.inl ⟨_,rfl,trivial,fun H K D=>by
   have h8:=h6 _ (zS hi);show (zla g a most i k n j x).ev H K D=_;unfold zla;simp only [Wy.ev_i,Wy.ev_k,Wy.ev_h,Wy.ev_bn,Wy.ev_d,tT,hi,h3 _ (zS hi)];rw [zfO (by omega),show (1:Int)=((1:Nat):Int) from rfl,zsK (n:=1) (by omega),zTV]⟩)
  (fun n hI H K D=>by
   show (zla g a most i k n x.Args.length x).ev H K D=_;unfold zla;simp only [Wy.ev_i,Wy.ev_k,tT,Nat.lt_irrefl]) fuel 0 (1+n) (by omega) (Nat.zero_le _) trivial
 rw [List.drop_zero,zen,z4s] at h;exact h
theorem z83 (x:Atom) (hx:NesG g x) (a:yC) (most i k:Int) (fuel n:Nat) (hf:x.Items.length<fuel):
  zCh g fuel a most i k ((1+n:Nat):Int) 0 x=(true,(a,most,i,k,((1+max n (zky x.Items):Nat):Int))):=by
 obtain ⟨⟨h1,h2⟩,⟨h5,h6,h7⟩,h3,h4⟩:=hx
 have h:=zep (W:=zwy g) (z:=default) (l:=x.Items) (fun j (n:Nat)=>(a,most,i,k,(),(n:Int),(j:Int),())) (fun _ _=>(x,())) (fun y n=>.inl (max n (1+zbu y.Ann))) (fun n=>(a,most,i,k,(n:Int))) (fun i n=>True)
  (fun j n hi hI=>.inl ⟨_,rfl,trivial,fun H K D=>by
   have h8:=h7 _ (zS hi);show (zk3 g a most i k n j x).ev H K D=_;unfold zk3;simp only [Wy.ev_i,Wy.ev_k,Wy.ev_h,Wy.ev_bn,Wy.ev_d,tT,hi,h4 _ (zS hi)];rw [zfO (by omega),show (1:Int)=((1:Nat):Int) from rfl,zsK (n:=1) (by omega),zTV]⟩)
  (fun n hI H K D=>by
   show (zk3 g a most i k n x.Items.length x).ev H K D=_;unfold zk3;simp only [Wy.ev_i,Wy.ev_k,tT,Nat.lt_irrefl]) fuel 0 (1+n) (by omega) (Nat.zero_le _) trivial
 rw [List.drop_zero,zen,z3K] at h;exact h
theorem RNes_12' (x:Atom) (hx:NesG g x) (a:yC) (most i k:Int) (fuel:Nat) (hf:x.Args.length<fuel):zwx g fuel a most i k 1 0 x=(true,(a,most,i,k,((1+zlp x.Args:Nat):Int),x)):=by
 have h:=z8Z g x hx a most i k fuel 0 hf;rw [Nat.zero_max] at h; exact h
theorem z9x (a:yC) (i:Nat) (hi:i<a.length) (hla:a.length≤1000000) (l:yD) (el:(a.getD i default).Factors=l) (hl:l.length≤1000000) (hg:∀ f∈l,NesG g f.Atom) (fuel n:Nat) (hf:l.length<fuel):
  zEw g fuel a n i 0=(true,(a,((max n (zc8 l):Nat):Int),(i:Int))):=by
 have h:=zep (W:=zxq g) (z:=default) (l:=l) (fun k (n:Nat)=>(a,(n:Int),(i:Int),(k:Int),())) (fun _ _=>()) (fun y n=>.inl (max n (zmJ y.Atom))) (fun n=>(a,(n:Int),(i:Int))) (fun k n=>True)
  (fun k n hk hI=>.inl ⟨_,rfl,trivial,fun H K D=>by
   have hx:=hg _ (zS hk);have h5:=hx.2.1.1;show (zmi g a n i k).ev H K D=_;unfold zmi;simp only [Wy.ev_i,Wy.ev_k,Wy.ev_h,Wy.ev_bn,Wy.ev_d,tT,hi,el,hk,Atom.eta];generalize l.getD k default=f at *;rw [zBi] at h5 ⊢;by_cases hz:f.Atom.Kind=0
   ·have e:(f.Atom.Kind==0)=true:=by simp [hz]
    simp only [e,cond_true];rw [if_pos hz,Nat.max_zero,zfO (by omega)]
   ·have e:(f.Atom.Kind==0)=false:=by simp [hz]
    have hx1:=hx.1;simp only [e,cond_false];rw [if_neg hz] at h5 ⊢;rw [RNes_12' g _ hx _ _ _ _ _ (by omega)]
    simp only [cond_true,Int.toNat_natCast,Atom.eta];rw [z83 g _ hx _ _ _ _ _ _ (by omega)]
    simp only [cond_true];rw [zfO (by omega),zTV]⟩)
  (fun n hI H K D=>by
   show (zmi g a n i l.length).ev H K D=_;unfold zmi;simp only [Wy.ev_i,Wy.ev_k,tT,hi,el,Nat.lt_irrefl]) fuel 0 n (by omega) (Nat.zero_le _) trivial
 rw [List.drop_zero,zen,zP6] at h;exact h
theorem z9M (l:yC) (hl:l.length≤1000000) (hg:∀ t∈l,t.Factors.length≤1000000∧∀ f∈t.Factors,NesG g f.Atom) (fuel n:Nat) (hf:l.length<fuel):
  zEC g fuel l n 0=(true,((max n (zbu l):Nat):Int)):=by
 have h:=zep (W:=zxm g) (z:=default) (l:=l) (fun i (n:Nat)=>(l,(n:Int),(i:Int),())) (fun _ _=>()) (fun y n=>.inl (max n (zc8 y.Factors))) (fun n=>(n:Int)) (fun i n=>True)
  (fun i n hi hI=>.inl ⟨_,rfl,trivial,fun H K D=>by
   obtain ⟨h1,h3⟩:=hg _ (zS hi);have hz:=zJo l i hi;show (zlY g l n i).ev H K D=_;unfold zlY;simp only [Wy.ev_i,Wy.ev_k,Wy.ev_h,Wy.ev_bn,Wy.ev_d,tT,hi,Atom.eta];rw [z9x g l i hi hl _ rfl h1 h3 _ _ (by omega)]
   simp only [cond_true];rw [zfO (by omega)]⟩)
  (fun n hI H K D=>by
   show (zlY g l n l.length).ev H K D=_;unfold zlY;simp only [Wy.ev_i,Wy.ev_k,tT,Nat.lt_irrefl]) fuel 0 n (by omega) (Nat.zero_le _) trivial
 rw [List.drop_zero,zen,z0W] at h;exact h
end
theorem z0f:∀ (n d:Nat) (a:yC),zA d a→d≤n→d≤100→zft n a=(true,(zbu a:Int))∧zjX n a=(true,(zbu a:Int))
 | n,0,a,h,hd,hs=>h.elim
 | 0,d+1,a,h,hd,hs=>by omega
 | n+1,d+1,a,h,hd,hs=>by
  have hg:=fun y (hy:zA d y)=>z0f n d y hy (by omega) (by omega)
  have hsub:∀ t∈a,t.Factors.length≤1000000∧∀ f∈t.Factors,NesG (zft n) f.Atom∧NesG (zjX n) f.Atom:=fun t ht=>by
   obtain ⟨h1,h2⟩:=zLY h ht;refine ⟨h1,fun f hf=> ?_⟩
   obtain ⟨h3,h4,h5⟩:=h2 f hf;have q1:∀ y∈f.Atom.Args,zbu y≤d:=fun y hy=>zOe d y (h4 y hy)
   have q2:∀ y∈f.Atom.Items,zbu y.Ann≤d:=fun y hy=>zOe d y.Ann (h5 y hy)
   have q3:zmJ f.Atom≤1000:=by
    have r1:=zYG _ q1; have r2:=zV8 _ q2;rw [zBi]; split <;>omega
   have q4:zmJ f.Atom≤1000∧(∀ y∈f.Atom.Args,zbu y≤1000)∧∀ y∈f.Atom.Items,zbu y.Ann≤1000:=⟨q3,fun y hy=>by have:=q1 y hy; omega,fun y hy=>by have:=q2 y hy; omega⟩
   exact ⟨⟨h3,q4,fun y hy=>(hg y (h4 y hy)).1,fun y hy=>(hg _ (h5 y hy)).1⟩,⟨h3,q4,fun y hy=>(hg y (h4 y hy)).2,fun y hy=>(hg _ (h5 y hy)).2⟩⟩
  constructor
  ·rw [zJP];unfold zn0 zzj;have h1:=zbaw (zft n) a h.1 (fun t ht=>⟨(hsub t ht).1,fun f hf=>((hsub t ht).2 f hf).1⟩) (Int.toNat 0+a.length+(Int.ofNat a.length).toNat +Int.toNat 0+1) 0 (by omega)
   rw [show ((0:Nat):Int)=(0:Int) from rfl,Nat.zero_max] at h1
   rw [Wy.fin_bn,show Int.ofNat a.length=(a.length:Int) from rfl] at *
   rw [h1]; rfl
  ·rw [zSD];unfold zwH zGq;have h1:=z9M (zjX n) a h.1 (fun t ht=>⟨(hsub t ht).1,fun f hf=>((hsub t ht).2 f hf).2⟩) (a.length+Int.toNat 0+Int.toNat 0+1+szTs a) 0 (by omega)
   rw [show ((0:Nat):Int)=(0:Int) from rfl,Nat.zero_max] at h1
   rw [Wy.fin_bn,h1]; rfl
theorem zxW (x y:Int):zdG x y=(true,cmpI x y):=by
 unfold zdG zGd zrn zKP cmpI;by_cases h1:x<y
 ·simp [h1,Wy.fin_i,Wy.fin_k]
 ·by_cases h2:y<x <;>simp [h1,h2,Wy.fin_i,Wy.fin_k]
theorem zAR (x y:Int):zib x y=(true,cmpI x y):=by
 unfold zib zCe zmN zF7 cmpI;by_cases h1:x<y
 ·simp [h1,Wy.fin_i,Wy.fin_k]
 ·by_cases h2:y<x <;>simp [h1,h2,Wy.fin_i,Wy.fin_k]
def ztR:List Int→Int
 | []=>0
 | x::r=>if x=0 then ztR r else x
theorem z44 (l:List Int) (hl:l.length≤1000000):∀ (n i:Nat),l.length<i+n→i≤l.length→∃ r,zFe n 0 l l.length i=(true,r)∧(r=.inl (ztR (l.drop i))∨(r=.inr 0∧ztR (l.drop i)=0))
 | 0,i,h,h2=>by omega
 | n+1,i,h,h2=>by
  show ∃ r,(zFy 0 l l.length i).ev (fun x y=>zFe n x.1 x.2.1 x.2.2.1 x.2.2.2.1) (fun r=>(true,r)) (false,.inl default)=(true,r)∧_
  unfold zFy;by_cases hi:i<l.length
  ·simp only [Wy.ev_i,Wy.ev_k,Wy.ev_h,Int.ofNat_eq_natCast,zHK,zgp,decide_true,decide_false,Bool.and_self,Bool.true_and,Bool.and_true,cond_true,cond_false,Int.toNat_natCast,Bool.not_true,Bool.not_false,hi];obtain ⟨r,h1,h3⟩:=z44 l hl n (i+1) (by omega) (by omega)
   rw [zbT hi,zbV (by omega),h1]
   generalize l.getD i default=x;by_cases hx:x=0
   ·have e:(x != 0)=false:=by simp [hx]
    simp only [e,cond_false,ztR,hx,if_true];exact ⟨r,rfl,h3⟩
   ·have e:(x != 0)=true:=by simp [hx]
    simp only [e,cond_true,ztR,hx,if_false];exact ⟨_,rfl,.inl rfl⟩
  ·simp only [Wy.ev_i,Wy.ev_k,Wy.ev_h,Int.ofNat_eq_natCast,zHK,zgp,decide_true,decide_false,Bool.and_self,Bool.true_and,Bool.and_true,cond_true,cond_false,Int.toNat_natCast,Bool.not_true,Bool.not_false,hi,zez hi];exact ⟨_,rfl,.inr ⟨rfl,rfl⟩⟩
theorem zv2 (l:List Int) (hl:l.length≤1000000):zlG l=(true,ztR l):=by
 unfold zlG zTj;obtain ⟨r,h1,h2⟩:=z44 l hl (Int.toNat 0+l.length+(Int.ofNat l.length).toNat +Int.toNat 0+1) 0 (by simp; omega) (by omega)
 rw [show ((0:Nat):Int)=(0:Int) from rfl] at h1
 rw [Wy.fin_bn,show Int.ofNat l.length=(l.length:Int) from rfl] at *
 rw [h1];rw [List.drop_zero] at h2;rcases h2 with rfl | ⟨rfl,h2⟩
 ·rfl
 ·rw [h2]; rfl
section
variable {α:Type}
def lexG (c:α→α→Int):List α→List α→Int
 | [],[]=>0
 | [],_::_=> -1
 | _::_,[]=>1
 | x::a,y::b=>if c x y=0 then lexG c a b else c x y
theorem zKI (e:α→TT) {c:α→α→Int}:∀ (a b:List α),(∀ x∈a,∀ y∈b,c x y=cmpT (e x) (e y))→lexG c a b=cmpL (a.map e) (b.map e)
 | [],[],_=>by simp only [lexG,List.map,cmpL]
 | [],_::_,_=>by simp only [lexG,List.map,cmpL]
 | _::_,[],_=>by simp only [lexG,List.map,cmpL]
 | x::a,y::b,h=>by
  simp only [lexG,List.map,cmpL];rw [h x (by simp) y (by simp),zKI e a b fun x hx y hy=>h x (by simp [hx]) y (by simp [hy])]
variable [Inhabited α]
def z2g (g:α→α→Bool×Int) (s1:List α) (s2:List α) (t11:List α) (t12:Int) (t13:Int):Wy (List α×List α×Unit×List α×Int×Int×Unit) (Unit) (Int⊕(List α×List α)):=.i (decide (t13<t12)) (.i (decide ((0:Int)≤t13)&&decide (t13<Int.ofNat t11.length)) (.i (decide (t13≥Int.ofNat s2.length)) (.k (.inl (1:Int))) (.i (decide ((0:Int)≤t13)&&decide (t13<Int.ofNat s2.length)) (.bn (g (t11.getD t13.toNat default) (s2.getD t13.toNat default)) fun r0=>.i (r0 != (0:Int)) (.k (.inl (r0))) (.h (s1,s2,(),t11,t12,(IntKind.i64.wrap (t13+(1:Int))),()) ())) .d)) .d) (.k (.inr (s1,s2)))
def z5X (g:α→α→Bool×Int) (x:List α×List α×Unit×List α×Int×Int×Unit) (y:Unit):Wy (List α×List α×Unit×List α×Int×Int×Unit) (Unit) (Int⊕(List α×List α)):=z2g g x.1 x.2.1 x.2.2.2.1 x.2.2.2.2.1 x.2.2.2.2.2.1
def z5D (g:α→α→Bool×Int) (n:Nat) (s1:List α) (s2:List α) (t11:List α) (t12:Int) (t13:Int):Bool×(Int⊕(List α×List α)):=zJ (z5X g) (.inl default) n (s1,s2,(),t11,t12,t13,()) ()
def CF (g:α→α→Bool×Int) (s1 s2:List α):Bool×Int:=(.bn (z5D g (s1.length+s2.length+s1.length+(Int.ofNat s1.length).toNat +Int.toNat (0:Int)+(1:Nat)) s1 s2 s1 (Int.ofNat s1.length) (0:Int)) fun r2=>.i (isL r2) (.k (getL r2)) (.i (decide (Int.ofNat (getR r2).fst.length<Int.ofNat (getR r2).snd.length)) (.k (-1:Int)) (.k (0:Int))):Wy0 Int).fin default
theorem z42 (g:α→α→Bool×Int) (c:α→α→Int) (a b:List α) (ha:a.length≤1000000) (hg:∀ x∈a,∀ y∈b,g x y=(true,c x y)):∀ (n i:Nat),a.length<i+n→i≤a.length→i≤b.length→
  ∃ r,z5D g n a b a a.length i=(true,r)∧((r=.inl (lexG c (a.drop i) (b.drop i)))∨(r=.inr (a,b)∧lexG c (a.drop i) (b.drop i)=if a.length<b.length then -1 else 0))
 | 0,i,h,h2,h3=>by omega
 | n+1,i,h,h2,h3=>by
  show ∃ r,(z2g g a b a a.length i).ev (fun x y=>z5D g n x.1 x.2.1 x.2.2.2.1 x.2.2.2.2.1 x.2.2.2.2.2.1) (fun r=>(true,r)) (false,.inl default)=(true,r)∧_
  unfold z2g;by_cases hi:i<a.length
  ·by_cases hi':i<b.length
   ·have hg':¬ b.length≤i:=by omega
    simp only [Wy.ev_i,Wy.ev_k,Wy.ev_h,Wy.ev_bn,Wy.ev_d,Int.ofNat_eq_natCast,zHK,zgp,decide_true,decide_false,Bool.and_self,Bool.true_and,Bool.and_true,cond_true,cond_false,Int.toNat_natCast,Bool.not_true,Bool.not_false,hi,hi',z7d,hg',hg _ (zS hi) _ (zS hi')];rw [zbT hi,zbT hi',zbV (by omega)]
    simp only [lexG];generalize c (a.getD i default) (b.getD i default)=z;by_cases hx:z=0
    ·have e:(z != 0)=false:=by simp [hx]
     simp only [e,cond_false,hx,if_true];exact z42 g c a b ha hg n (i+1) (by omega) (by omega) (by omega)
    ·have e:(z != 0)=true:=by simp [hx]
     simp only [e,cond_true,hx,if_false];exact ⟨_,rfl,.inl rfl⟩
   ·have hg':b.length≤i:=by omega
    simp only [Wy.ev_i,Wy.ev_k,Wy.ev_h,Wy.ev_bn,Wy.ev_d,Int.ofNat_eq_natCast,zHK,zgp,decide_true,decide_false,Bool.and_self,Bool.true_and,Bool.and_true,cond_true,cond_false,Int.toNat_natCast,Bool.not_true,Bool.not_false,hi,z7d,hg'];refine ⟨_,rfl,.inl ?_⟩;rw [zbT hi,zez hi']; rfl
  ·simp only [Wy.ev_i,Wy.ev_k,Wy.ev_h,Wy.ev_bn,Wy.ev_d,Int.ofNat_eq_natCast,zHK,zgp,decide_true,decide_false,Bool.and_self,Bool.true_and,Bool.and_true,cond_true,cond_false,Int.toNat_natCast,Bool.not_true,Bool.not_false,hi];refine ⟨_,rfl,.inr ⟨rfl, ?_⟩⟩;rw [zez hi];by_cases hi':i<b.length
   ·rw [zbT hi',if_pos (by omega)]; rfl
   ·rw [zez hi',if_neg (by omega)]; rfl
theorem zbaF (g:α→α→Bool×Int) (c:α→α→Int) (a b:List α) (ha:a.length≤1000000) (hg:∀ x∈a,∀ y∈b,g x y=(true,c x y)):CF g a b=(true,lexG c a b):=by
 unfold CF;obtain ⟨r,h1,h2⟩:=z42 g c a b ha hg (a.length+b.length+a.length+(Int.ofNat a.length).toNat +Int.toNat 0+1) 0 (by simp; omega) (by omega) (by omega)
 rw [show ((0:Nat):Int)=(0:Int) from rfl] at h1
 rw [Wy.fin_bn,show Int.ofNat a.length=(a.length:Int) from rfl] at *
 rw [h1];simp only [List.drop_zero] at h2;rcases h2 with rfl | ⟨rfl,h2⟩
 ·rfl
 ·rw [h2];simp only [Wy.fin_i,Wy.fin_k,Int.ofNat_eq_natCast,zHK,zgp,decide_true,decide_false,Bool.and_self,Bool.true_and,Bool.and_true,cond_true,cond_false,Int.toNat_natCast,Bool.not_true,Bool.not_false,isL,getR];by_cases h3:a.length<b.length <;>simp [h3]
end
theorem zT9 {α:Type} [Inhabited α] (e:α→TT) (g:α→α→Bool×Int) (a b:List α) (ha:a.length≤1000000) (hg:∀ x∈a,∀ y∈b,g x y=(true,cmpT (e x) (e y))):CF g a b=(true,cmpL (a.map e) (b.map e)):=by
 rw [zbaF g (fun x y=>cmpT (e x) (e y)) a b ha hg,zKI e a b fun _ _ _ _=>rfl]
theorem Factor.eta2 (x:Factor):(FactorOf.mk (Atom.mk x.Atom.Kind x.Atom.Row x.Atom.Args x.Atom.Func x.Atom.Items x.Atom.Op x.Atom.Bound) x.Exp:Factor)=x:=by rw [Atom.eta]
theorem z7K (g):zbK g=CF g:=rfl
theorem z5L (g):zbr g=CF g:=by
 have h:zbI g=z5X g:=by
  funext x y
  unfold zbI zdN z5X z2g;rw [Factor.eta2,Factor.eta2]
 funext a b
 unfold zbr zdP zdL;rw [h]; rfl
theorem z81 (g):zbl g=CF g:=rfl
theorem z7o (g):zbD g=CF g:=rfl
theorem zIH (a b:Value):zrp a b=(true,cmpT (trV a) (trV b)):=by
 unfold zrp zKx;have h:(strings_Compare a.Text b.Text).2=cmpT (trB a.Text) (trB b.Text):=by rw [← z4z]; rfl
 simp only [zxW,zAR,Wy.fin_bn,cond_true,h];rw [zv2 _ (by simp)]
 simp only [Wy.fin_k,cond_true,trV,cmpT,cmpL,ztR];rfl
theorem zNb:∀ n,
  (∀ d a b,zA d a→10*d≤n→zfw n a b=(true,cmpL (zdi a) (zdi b)))∧
  (∀ d a b,zA d a→10*d≤n+1→zbL n a b=(true,cmpL (zdi a) (zdi b)))∧
  (∀ d x y,zdK (zA d) x.Factors→10*d+10≤n+2→zhU n x y=(true,cmpT (zx8 x) (zx8 y)))∧
  (∀ d x y,zdK (zA d) x.Factors→10*d+10≤n+3→zgi n x y=(true,cmpL (zbF x.Factors) (zbF y.Factors)))∧
  (∀ d l l',zdK (zA d) l→10*d+10≤n+4→zbQ n l l'=(true,cmpL (zbF l) (zbF l')))∧
  (∀ d x y,zds (zA d) x.Atom→10*d+10≤n+5→zfg n x y=(true,cmpT (zpt x) (zpt y)))∧
  (∀ d x y,zds (zA d) x→10*d+10≤n+6→zf8 n x y=(true,cmpT (zdI x) (zdI y)))∧
  (∀ d a b,a.length≤1000000→(∀ x∈a,zA d x)→10*d+10≤n+7→zbi n a b=(true,cmpL (zvx a) (zvx b)))∧
  (∀ d a b,a.length≤1000000→(∀ x∈a,zA d x.Ann)→10*d+10≤n+7→zbC n a b=(true,cmpL (zgu a) (zgu b)))∧
  (∀ d x y,zA d x.Ann→10*d+10≤n+8→zeA n x y=(true,cmpT (zfE x) (zfE y)))
 | 0=>by
  refine ⟨?_, ?_, ?_, ?_, ?_, ?_, ?_, ?_, ?_, ?_⟩
  ·intro d a b h hd; have:d=0:=by omega
   subst this; exact h.elim
  ·intro d a b h hd; have:d=0:=by omega
   subst this; exact h.elim
  all_goals (intros; omega)
 | n+1=>by
  obtain ⟨h1,h2,h3,h4,h5,h6,h7,h8,h9,h10⟩:=zNb n;refine ⟨?_, ?_, ?_, ?_, ?_, ?_, ?_, ?_, ?_, ?_⟩
  ·intro d a b h hd;rw [zJS];unfold znO zzm;rw [Wy.fin_bn,h2 d a b h (by omega)]; rfl
  ·intro d a b h hd;cases d with
   | zero=>exact h.elim
   | succ d=>
    rw [zhb,z7K,zDZ,zDZ];exact zT9 zx8 _ a b h.1 fun x hx y hy=>h3 d x y (h.2 x hx) (by omega)
  ·intro d x y h hd;rw [zFz];unfold zkV zwM;rw [Wy.fin_bn,h4 d x y h (by omega)]
   simp only [cond_true,Wy.fin_bn,zAR];rw [zv2 _ (by simp)]
   obtain ⟨c,l⟩:=x; obtain ⟨c',l'⟩:=y;simp only [cond_true,Wy.fin_k,ztR,zx8,cmpT,cmpL];rfl
  ·intro d x y h hd;rw [zDd];unfold zjG zuB;rw [Wy.fin_bn,h5 d _ _ h (by omega)]; rfl
  ·intro d l l' h hd;rw [zhF,z5L,zvo,zvo];exact zT9 zpt _ l l' h.1 fun x hx y hy=>h6 d x y (h.2 x hx) (by omega)
  ·intro d x y h hd;rw [zAQ];unfold zir zsN;rw [Atom.eta,Atom.eta,Wy.fin_bn,h7 d _ _ h (by omega)]
   simp only [cond_true,Wy.fin_bn,zxW];rw [zv2 _ (by simp)]
   obtain ⟨c,l⟩:=x; obtain ⟨c',l'⟩:=y;simp only [cond_true,Wy.fin_k,ztR,zpt,cmpT,cmpL];rfl
  ·intro d x y h hd;rw [zDp];unfold zjK zul;simp only [cond_true,Wy.fin_bn,zxW,zIH,h8 d x.Args y.Args h.1.1 h.2.1 (by omega),h9 d x.Items y.Items h.1.2.1 (fun w hw=>(h.2.2 w hw).2) (by omega)]
   rw [zv2 _ (by simp)]
   obtain ⟨k,r,a,f,i,o,v⟩:=x; obtain ⟨k',r',a',f',i',o',v'⟩:=y;simp only [cond_true,Wy.fin_k,ztR,zdI,cmpT,cmpL];rfl
  ·intro d a b h0 h hd;rw [zeO,z81,zBv,zBv];exact zT9 (fun x=>TT.l (zdi x)) _ a b h0 fun x hx y hy=>by rw [h1 d x y (h x hx) (by omega)]; simp only [cmpT]
  ·intro d a b h0 h hd;rw [zfL,z7o,zsl,zsl];exact zT9 zfE _ a b h0 fun x hx y hy=>h10 d x y (h x hx) (by omega)
  ·intro d x y h hd;rw [zCM];unfold zjD zuA;simp only [cond_true,Wy.fin_bn,zIH,h1 d _ _ h (by omega)]
   rw [zv2 _ (by simp)]
   obtain ⟨c,l⟩:=x; obtain ⟨c',l'⟩:=y;simp only [cond_true,Wy.fin_k,ztR,zfE,cmpT,cmpL];rfl
theorem zM6 {d:Nat} {a:yC} (h:zA d a) (hd:d≤100) (b:yC):zxo a b=(true,cmpL (zdi a) (zdi b)):=(zNb 1000).1 d a b h (by omega)
theorem zFZ {d:Nat} {x:Term} (h:zdK (zA d) x.Factors) (hd:d≤99) (y:Term):zb7 x y=(true,cmpL (zbF x.Factors) (zbF y.Factors)):=(zNb 1000).2.2.2.1 d x y h (by omega)
theorem zFR {d:Nat} {x:Atom} (h:zds (zA d) x) (hd:d≤99) (y:Atom):zhM x y=(true,cmpT (zdI x) (zdI y)):=(zNb 1000).2.2.2.2.2.2.1 d x y h (by omega)
theorem zF2 {d:Nat} {x:Weighted} (h:zA d x.Ann) (hd:d≤99) (y:Weighted):zbt x y=(true,cmpT (zfE x) (zfE y)):=(zNb 1000).2.2.2.2.2.2.2.2.2 d x y h (by omega)
theorem zCp {d:Nat} {a:yC} (h:zA d a) (hd:d≤100) (b:yC):zgX a b=(true,decide (a=b)):=by
 unfold zgX zEN;rw [Wy.fin_bn,zM6 h hd];simp only [cond_true,Wy.fin_k];congr 1;by_cases e:a=b
 ·subst e; rw [zSG]; simp
 ·have:cmpL (zdi a) (zdi b)≠0:=fun h=>e (zEJ _ _ (zHB _ _ h))
  simp [e,this]
theorem zWg (s:ByteArray):∀ (n i:Nat) (r:List UInt8),s.size≤i+n→ByteArray.toList.loop s i r=r.reverse++s.data.toList.drop i
 | 0,i,r,h=>by
  rw [ByteArray.toList.loop,if_neg (by omega),List.drop_eq_nil_of_le (by rw [← Lib.size_eq]; omega),List.append_nil]
 | n+1,i,r,h=>by
  rw [ByteArray.toList.loop];by_cases hi:i<s.size
  ·have hi':i<s.data.toList.length:=by rw [← Lib.size_eq]; exact hi
   rw [if_pos hi,zWg s n (i+1) _ (by omega),List.drop_eq_getElem_cons hi',List.reverse_cons,List.append_assoc]
   congr 1
   have:s.get! i=s.data.toList[i]:=by
    have h':i<s.data.size:=hi;show s.data[i]! =s.data.toList[i];rw [getElem!_pos s.data i h']; rfl
   rw [this]; rfl
  ·rw [if_neg hi,List.drop_eq_nil_of_le (by rw [← Lib.size_eq]; omega),List.append_nil]
theorem toList_eq (s:ByteArray):s.toList=s.data.toList:=by
 rw [ByteArray.toList,zWg s s.size 0 [] (by omega)]; rfl
theorem zEq {s t:ByteArray} (h:s.data.toList=t.data.toList):s=t:=by
 cases s; cases t;congr 1;exact Array.toList_inj.1 h
theorem z5x (s t:ByteArray):(s.toList==t.toList)=decide (s.data.toList=t.data.toList):=by
 rw [toList_eq,toList_eq];cases hb:(s.data.toList==t.data.toList) with
 | true=>rw [decide_eq_true (beq_iff_eq.1 hb)]
 | false=>rw [decide_eq_false (fun h=>by rw [beq_iff_eq.2 h] at hb; cases hb)]
theorem zSh (s t:ByteArray):(s.toList==t.toList)=decide (s=t):=by
 rw [z5x];by_cases h:s=t
 ·rw [decide_eq_true h,decide_eq_true (by rw [h])]
 ·rw [decide_eq_false h,decide_eq_false fun e=>h (zEq e)]
theorem bne0 (z w:Int):(z != w)= !decide (z=w):=by by_cases h:z=w <;>simp [h]
theorem zP2:∀ a b:List UInt8,Op.bytesLess a b=decide (Lib.compareBytes a b<0)
 | [],[]=>by simp [Op.bytesLess,Lib.compareBytes]
 | _::_,[]=>by simp [Op.bytesLess,Lib.compareBytes]
 | [],_::_=>by simp [Op.bytesLess,Lib.compareBytes]
 | x::a,y::b=>by
  simp only [Op.bytesLess,Lib.compareBytes];by_cases p:x<y
  ·simp [p]
  ·by_cases q:y<x
   ·have hne:¬ x=y:=fun e=>by subst e; exact p q
    simp [p,q,hne]
   ·have he:x=y:=UInt8.toNat_inj.1 (by rw [UInt8.lt_iff_toNat_lt] at p q; omega)
    subst he;simp [p,zP2 a b]
theorem zHU (a b:Value):zm6 a b=(true,cmpT (trV a) (trV b)):=by
 unfold zm6 zKl zyq zSY;rw [zSh,toList_eq,toList_eq,zP2,z4z];simp only [trV,cmpT,cmpL,cmpI];simp only [Wy.fin_i,Wy.fin_bn,Wy.fin_k,cond_true,bne0];by_cases h1:a.Kind=b.Kind
 ·by_cases h2:a.Int=b.Int
  ·by_cases h3:a.Text=b.Text
   ·simp [h1,h2,h3,zKz]
   ·have h4:cmpT (trB a.Text) (trB b.Text)≠0:=fun e=>by
     have:=zFP _ _ (TT.l.inj (zwb _ _ e));exact h3 (zEq this)
    have h5:=z23 (trB a.Text) (trB b.Text);simp only [trB,cmpT] at h4 h5;simp only [trB,cmpT];rcases h5 with h5 | h5 | h5
    ·simp [h1,h2,h3,h5]
    ·exact absurd h5 h4
    ·simp [h1,h2,h3,h5]
  ·by_cases h3:a.Int<b.Int
   ·simp [h1,h2,h3]
   ·simp [h1,h2,h3,show b.Int<a.Int by omega]
 ·by_cases h3:a.Kind<b.Kind
  ·simp [h1,h3]
  ·simp [h1,h3,show b.Kind<a.Kind by omega]
theorem zr7 (x y:Int):zcR x y=(true,cmpI x y):=by
 unfold zcR zNL cmpI;by_cases h1:x<y
 ·simp [h1,Wy.fin_i,Wy.fin_k]
 ·by_cases h2:y<x <;>simp [h1,h2,Wy.fin_i,Wy.fin_k]
theorem zQc (x y:RowID):zlm x y=(true,if cmpI x.Table y.Table=0 then cmpI x.Seq y.Seq else cmpI x.Table y.Table):=by
 unfold zlm zEW;simp only [zr7,Wy.fin_i,Wy.fin_bn,Wy.fin_k,cond_true,bne0];by_cases h:cmpI x.Table y.Table=0
 ·simp [h]
 ·simp [h]
section
variable {α:Type} [Inhabited α]
def z2c (p q:α→α→Bool×Int) (a:List α) (b:List α) (i:Int):Wy (List α×List α×Int×Unit) (Unit) (Int⊕(List α×List α)):=.i (decide (i<Int.ofNat a.length)) (.i (decide (i<Int.ofNat b.length)) (.i (decide ((0:Int)≤i)&&decide (i<Int.ofNat a.length)) (.i (decide ((0:Int)≤i)&&decide (i<Int.ofNat b.length)) (.bn (p (a.getD i.toNat default) (b.getD i.toNat default)) fun r1=>.i (r1 != (0:Int)) (.k (.inl (r1))) (.i (decide ((0:Int)≤i)&&decide (i<Int.ofNat a.length)) (.i (decide ((0:Int)≤i)&&decide (i<Int.ofNat b.length)) (.bn (q (a.getD i.toNat default) (b.getD i.toNat default)) fun r0=>.i (r0 != (0:Int)) (.k (.inl (r0))) (.h (a,b,(IntKind.i64.wrap (i+(1:Int))),()) ())) .d) .d)) .d) .d) (.k (.inr (a,b)))) (.k (.inr (a,b)))
def z56 (p q:α→α→Bool×Int) (x:List α×List α×Int×Unit) (y:Unit):Wy (List α×List α×Int×Unit) (Unit) (Int⊕(List α×List α)):=z2c p q x.1 x.2.1 x.2.2.1
def z5n (p q:α→α→Bool×Int) (n:Nat) (a:List α) (b:List α) (i:Int):Bool×(Int⊕(List α×List α)):=zJ (z56 p q) (.inl default) n (a,b,i,()) ()
def RG (p q:α→α→Bool×Int) (a b:List α):Bool×Int:=(.bn (z5n p q (a.length+b.length+Int.toNat (0:Int)+(1:Nat)) a b (0:Int)) fun r5=>.i (isL r5) (.k (getL r5)) (.bn (zcR (Int.ofNat (getR r5).fst.length) (Int.ofNat (getR r5).snd.length)) fun r4=>.k r4):Wy0 Int).fin default
theorem z5b (p q:α→α→Bool×Int) (c1 c2:α→α→Int) (a b:List α) (ha:a.length≤1000000) (hp:∀ x∈a,∀ y∈b,p x y=(true,c1 x y)) (hq:∀ x∈a,∀ y∈b,q x y=(true,c2 x y)):∀ (n i:Nat),a.length<i+n→i≤a.length→i≤b.length→
  ∃ r,z5n p q n a b i=(true,r)∧((r=.inl (lexG (fun x y=>if c1 x y=0 then c2 x y else c1 x y) (a.drop i) (b.drop i)))∨(r=.inr (a,b)∧lexG (fun x y=>if c1 x y=0 then c2 x y else c1 x y) (a.drop i) (b.drop i)=cmpI a.length b.length))
 | 0,i,h,h2,h3=>by omega
 | n+1,i,h,h2,h3=>by
  show ∃ r,(z2c p q a b i).ev (fun x y=>z5n p q n x.1 x.2.1 x.2.2.1) (fun r=>(true,r)) (false,.inl default)=(true,r)∧_
  unfold z2c;by_cases hi:i<a.length
  ·by_cases hi':i<b.length
   ·simp only [Wy.ev_i,Wy.ev_k,Wy.ev_h,Wy.ev_bn,Wy.ev_d,tT,hi,hi',hp _ (zS hi) _ (zS hi'),hq _ (zS hi) _ (zS hi')];rw [zbT hi,zbT hi',zbV (by omega)]
    simp only [lexG];generalize c1 (a.getD i default) (b.getD i default)=z1;generalize c2 (a.getD i default) (b.getD i default)=z2;by_cases hx:z1=0
    ·have e:(z1 != 0)=false:=by simp [hx]
     by_cases hx2:z2=0
     ·have e2:(z2 != 0)=false:=by simp [hx2]
      simp only [e,e2,cond_false,hx,hx2,if_true];exact z5b p q c1 c2 a b ha hp hq n (i+1) (by omega) (by omega) (by omega)
     ·have e2:(z2 != 0)=true:=by simp [hx2]
      simp only [e,e2,cond_false,cond_true,hx,hx2,if_true,if_false];exact ⟨_,rfl,.inl rfl⟩
    ·have e:(z1 != 0)=true:=by simp [hx]
     simp only [e,cond_true,hx,if_false];exact ⟨_,rfl,.inl rfl⟩
   ·simp only [Wy.ev_i,Wy.ev_k,Wy.ev_h,Wy.ev_bn,Wy.ev_d,tT,hi,hi'];refine ⟨_,rfl,.inr ⟨rfl, ?_⟩⟩;rw [zbT hi,zez hi'];unfold cmpI; rw [if_neg (by omega),if_pos (by omega)]; rfl
  ·simp only [Wy.ev_i,Wy.ev_k,Wy.ev_h,Wy.ev_bn,Wy.ev_d,tT,hi];refine ⟨_,rfl,.inr ⟨rfl, ?_⟩⟩;rw [zez hi];by_cases hi':i<b.length
   ·rw [zbT hi']; unfold cmpI; rw [if_pos (by omega)]; rfl
   ·rw [zez hi']; unfold cmpI; rw [if_neg (by omega),if_neg (by omega)]; rfl
theorem zbav (p q:α→α→Bool×Int) (c1 c2:α→α→Int) (a b:List α) (ha:a.length≤1000000) (hp:∀ x∈a,∀ y∈b,p x y=(true,c1 x y)) (hq:∀ x∈a,∀ y∈b,q x y=(true,c2 x y)):RG p q a b=(true,lexG (fun x y=>if c1 x y=0 then c2 x y else c1 x y) a b):=by
 unfold RG;obtain ⟨r,h1,h2⟩:=z5b p q c1 c2 a b ha hp hq (a.length+b.length+Int.toNat 0+1) 0 (by simp; omega) (by omega) (by omega)
 rw [show ((0:Nat):Int)=(0:Int) from rfl] at h1
 rw [Wy.fin_bn,h1];simp only [List.drop_zero] at h2;rcases h2 with rfl | ⟨rfl,h2⟩
 ·rfl
 ·rw [h2];simp only [Wy.fin_i,Wy.fin_k,Wy.fin_bn,zr7,tT,isL,getR]
end
theorem z0v {α:Type} [Inhabited α] (e:α→TT) (p q:α→α→Bool×Int) (c1 c2:α→α→Int) (a b:List α) (ha:a.length≤1000000) (hp:∀ x∈a,∀ y∈b,p x y=(true,c1 x y)) (hq:∀ x∈a,∀ y∈b,q x y=(true,c2 x y))
  (hc:∀ x y,(if c1 x y=0 then c2 x y else c1 x y)=cmpT (e x) (e y)):RG p q a b=(true,cmpL (a.map e) (b.map e)):=by
 rw [zbav p q c1 c2 a b ha hp hq,zKI e a b fun x _ y _=>hc x y]
theorem z7k (g):zwD g=RG (fun x y=>g x.Factors y.Factors) (fun x y=>zcR x.Coeff y.Coeff):=rfl
theorem z5J (g):ziB g=RG (fun x y=>g x.Atom y.Atom) (fun x y=>zcR x.Exp y.Exp):=by
 have h:zjL g=z56 (fun x y=>g x.Atom y.Atom) (fun x y=>zcR x.Exp y.Exp):=by
  funext x y
  unfold zjL zwV z56 z2c;rw [Atom.eta,Atom.eta]
 funext a b
 unfold ziB zxa zwS;rw [h]; rfl
theorem z7W (g):zn6 g=RG (fun x y=>zm6 x.Value y.Value) (fun x y=>g x.Ann y.Ann):=rfl
theorem z0N (gI) (g:yC→yC→Bool×Int) (a b:Atom) (ha:a.Args.length≤1000000) (hg:∀ x∈a.Args,∀ y∈b.Args,g x y=(true,cmpL (zdi x) (zdi y))):∀ (n i:Nat),a.Args.length<i+n→i≤a.Args.length→i≤b.Args.length→
  ∃ r,zsz g gI n i a b=(true,r)∧((r=.inl (lexG (fun x y=>cmpL (zdi x) (zdi y)) (a.Args.drop i) (b.Args.drop i))∧lexG (fun x y=>cmpL (zdi x) (zdi y)) (a.Args.drop i) (b.Args.drop i)≠0)∨(r=.inr (a,b)∧lexG (fun x y=>cmpL (zdi x) (zdi y)) (a.Args.drop i) (b.Args.drop i)=cmpI a.Args.length b.Args.length))
 | 0,i,h,h2,h3=>by omega
 | n+1,i,h,h2,h3=>by
  show ∃ r,(zsF g gI i a b).ev (fun x y=>zsz g gI n x.2.2.1 y.1 y.2.1) (fun r=>(true,r)) (false,.inl default)=(true,r)∧_
  unfold zsF;by_cases hi:i<a.Args.length
  ·by_cases hi':i<b.Args.length
   ·simp only [Wy.ev_i,Wy.ev_k,Wy.ev_h,Wy.ev_bn,Wy.ev_d,tT,hi,hi',hg _ (zS hi) _ (zS hi')];rw [zbT hi,zbT hi',zbV (by omega)]
    simp only [lexG];generalize cmpL (zdi (a.Args.getD i default)) (zdi (b.Args.getD i default))=z1;by_cases hx:z1=0
    ·have e:(z1 != 0)=false:=by simp [hx]
     simp only [e,cond_false,hx,if_true];exact z0N gI g a b ha hg n (i+1) (by omega) (by omega) (by omega)
    ·have e:(z1 != 0)=true:=by simp [hx]
     simp only [e,cond_true,hx,if_false];exact ⟨_,rfl,.inl ⟨rfl,hx⟩⟩
   ·simp only [Wy.ev_i,Wy.ev_k,Wy.ev_h,Wy.ev_bn,Wy.ev_d,tT,hi,hi'];refine ⟨_,rfl,.inr ⟨rfl, ?_⟩⟩;rw [zbT hi,zez hi'];unfold cmpI; rw [if_neg (by omega),if_pos (by omega)]; rfl
  ·simp only [Wy.ev_i,Wy.ev_k,Wy.ev_h,Wy.ev_bn,Wy.ev_d,tT,hi];refine ⟨_,rfl,.inr ⟨rfl, ?_⟩⟩;rw [zez hi];by_cases hi':i<b.Args.length
   ·rw [zbT hi']; unfold cmpI; rw [if_pos (by omega)]; rfl
   ·rw [zez hi']; unfold cmpI; rw [if_neg (by omega),if_neg (by omega)]; rfl
theorem z8T (gI) (g:yC→yC→Bool×Int) (x y:Atom) (ha:x.Args.length≤1000000) (hg:∀ a∈x.Args,∀ b∈y.Args,g a b=(true,cmpL (zdi a) (zdi b)))
  (hI:gI x.Items y.Items=(true,cmpL (zgu x.Items) (zgu y.Items))):zk9 g gI x y=(true,cmpT (zdI x) (zdI y)):=by
 unfold zk9 zAk;rw [Atom.eta,Atom.eta];obtain ⟨r,h1,h2⟩:=z0N gI g x y ha hg (Int.toNat 0+x.Args.length+x.Items.length+y.Args.length+y.Items.length+1) 0 (by omega) (by omega) (by omega)
 rw [show ((0:Nat):Int)=(0:Int) from rfl] at h1
 simp only [List.drop_zero] at h2;rw [zKI (fun a=>TT.l (zdi a)) x.Args y.Args (fun a _ b _=>by simp only [cmpT]), ← zBv, ← zBv] at h2
 simp only [zr7,zQc,Wy.fin_bn,Wy.fin_i,Wy.fin_k,cond_true,h1];obtain ⟨k,r0,a,f,i,o,v⟩:=x; obtain ⟨k',r',a',f',i',o',v'⟩:=y;simp only [zdI,cmpT,cmpL,bne0] at *;by_cases e1:cmpI k k'=0
 rotate_left
 ·simp [e1]
 by_cases e2:cmpI r0.Table r'.Table=0
 rotate_left
 ·simp [e1,e2]
 by_cases e3:cmpI r0.Seq r'.Seq=0
 rotate_left
 ·simp [e1,e2,e3]
 rcases h2 with ⟨rfl,h2⟩ | ⟨rfl,h2⟩
 ·simp [e1,e2,e3,h2,isL,getL]
 simp only [e1,e2,e3,h2,isL,getR,tT,hI,if_true];by_cases e4:cmpI (a.length:Int) (a'.length:Int)=0
 rotate_left
 ·simp [e4]
 by_cases e5:cmpI f f'=0
 rotate_left
 ·simp [e4,e5]
 by_cases e6:cmpL (zgu i) (zgu i')=0
 rotate_left
 ·simp [e4,e5,e6]
 by_cases e7:cmpI o o'=0
 rotate_left
 ·simp [e4,e5,e6,e7]
 simp [e4,e5,e6,e7,zHU]
theorem zIh:∀ n,
  (∀ d a b,zA d a→10*d≤n→zmA n a b=(true,cmpL (zdi a) (zdi b)))∧
  (∀ d l l',zdK (zA d) l→10*d+10≤n+1→ziL n l l'=(true,cmpL (zbF l) (zbF l')))∧
  (∀ d x y,zds (zA d) x→10*d+10≤n+2→zlh n x y=(true,cmpT (zdI x) (zdI y)))∧
  (∀ d a b,a.length≤1000000→(∀ x∈a,zA d x.Ann)→10*d+10≤n+3→zki n a b=(true,cmpL (zgu a) (zgu b)))
 | 0=>by
  refine ⟨?_, ?_, ?_, ?_⟩
  ·intro d a b h hd; have:d=0:=by omega
   subst this; exact h.elim
  all_goals (intros; omega)
 | n+1=>by
  obtain ⟨h1,h2,h3,h4⟩:=zIh n;refine ⟨?_, ?_, ?_, ?_⟩
  ·intro d a b h hd;cases d with
   | zero=>exact h.elim
   | succ d=>
    rw [zSH,z7k,zDZ,zDZ]
    exact z0v zx8 _ _ (fun x y=>cmpL (zbF x.Factors) (zbF y.Factors)) (fun x y=>cmpI x.Coeff y.Coeff) a b h.1 (fun x hx y hy=>h2 d _ _ (h.2 x hx) (by omega)) (fun x _ y _=>zr7 _ _) fun x y=>by
     obtain ⟨c,l⟩:=x; obtain ⟨c',l'⟩:=y;simp only [zx8,cmpT,cmpL];by_cases e:cmpI c c'=0 <;>simp [e]
  ·intro d l l' h hd;rw [zGK,z5J,zvo,zvo]
   exact z0v zpt _ _ (fun x y=>cmpT (zdI x.Atom) (zdI y.Atom)) (fun x y=>cmpI x.Exp y.Exp) l l' h.1 (fun x hx y hy=>h3 d _ _ (h.2 x hx) (by omega)) (fun x _ y _=>zr7 _ _) fun x y=>by
    obtain ⟨c,l⟩:=x; obtain ⟨c',l'⟩:=y;simp only [zpt,cmpT,cmpL];by_cases e:cmpI l l'=0 <;>simp [e]
  ·intro d x y h hd;rw [zMa];exact z8T _ _ x y h.1.1 (fun a ha b _=>h1 d a b (h.2.1 a ha) (by omega)) (h4 d _ _ h.1.2.1 (fun w hw=>(h.2.2 w hw).2) (by omega))
  ·intro d a b h0 h hd;rw [zJ6,z7W,zsl,zsl]
   exact z0v zfE _ _ (fun x y=>cmpT (trV x.Value) (trV y.Value)) (fun x y=>cmpL (zdi x.Ann) (zdi y.Ann)) a b h0 (fun x _ y _=>zHU _ _) (fun x hx y _=>h1 d _ _ (h x hx) (by omega)) fun x y=>by
    obtain ⟨c,l⟩:=x; obtain ⟨c',l'⟩:=y;simp only [zfE,cmpT,cmpL];by_cases e:cmpL (zdi l) (zdi l')=0 <;>simp [e]
theorem zWC {d:Nat} {a:yC} (h:zA d a) (hd:d≤100) (b:yC):zFL a b=(true,cmpL (zdi a) (zdi b)):=(zIh 1000).1 d a b h (by omega)
theorem zrl {d:Nat} {l:yD} (h:zdK (zA d) l) (hd:d≤99) (l':yD):zkz l l'=(true,cmpL (zbF l) (zbF l')):=(zIh 1000).2.1 d l l' h (by omega)
theorem zoj {d:Nat} {x:Atom} (h:zds (zA d) x) (hd:d≤99) (y:Atom):zh5 x y=(true,cmpT (zdI x) (zdI y)):=(zIh 1000).2.2.1 d x y h (by omega)
theorem zNw {d:Nat} {a:yE} (h0:a.length≤1000000) (h:∀ x∈a,zA d x.Ann) (hd:d≤99) (b:yE):zxI a b=(true,cmpL (zgu a) (zgu b)):=(zIh 1000).2.2.2 d a b h0 h (by omega)
theorem z1n {d:Nat} {a:yC} (h:zA d a) (hd:d≤100) (b:yC):zuT a b=(true,decide (a=b)):=by
 unfold zuT zSl;rw [Wy.fin_bn,zWC h hd];simp only [cond_true,Wy.fin_k];congr 1;by_cases e:a=b
 ·subst e; rw [zSG]; simp
 ·have:cmpL (zdi a) (zdi b)≠0:=fun h=>e (zEJ _ _ (zHB _ _ h))
  simp [e,this]
def allN (c:Nat→Bool):Nat→Nat→Bool
 | 0,_=>true
 | n+1,i=>c i&&allN c n (i+1)
theorem zm2 {c:Nat→Bool}:∀ {n i},allN c n i=true↔∀ k,i≤k→k<i+n→c k=true
 | 0,i=>⟨fun _ k h1 h2=>by omega,fun _=>rfl⟩
 | n+1,i=>by
  simp only [allN,qc,zm2 (n:=n)];constructor
  ·rintro ⟨h1,h2⟩ k h3 h4
   by_cases e:k=i
   ·rw [e]; exact h1
   ·exact h2 k (by omega) (by omega)
  ·intro h;exact ⟨h i (by omega) (by omega),fun k h1 h2=>h k (by omega) (by omega)⟩
theorem z3x (c c':Nat→Bool):∀ n i,allN (fun k=>c k&&c' k) n i=(allN c n i&&allN c' n i)
 | 0,_=>rfl
 | n+1,i=>by
  simp only [allN,z3x c c' n (i+1)];cases c i <;>cases c' i <;>simp
theorem z2Y {τ:Type} [Inhabited τ] (p:τ→Bool) (l:List τ):∀ n i,i+n=l.length→allN (fun k=>p (l.getD k default)) n i=(l.drop i).all p
 | 0,i,h=>by rw [zez (by omega)]; rfl
 | n+1,i,h=>by
  rw [zbT (by omega),List.all_cons]
  simp only [allN,z2Y p l n (i+1) (by omega)]
theorem zAB {τ:Type} [Inhabited τ] (p:τ→Bool) (l:List τ):allN (fun k=>p (l.getD k default)) l.length 0=l.all p:=by
 rw [z2Y p l _ _ (by omega),List.drop_zero]
section
variable {α β ρ:Type}
theorem z2t {W:α→β→Wy α β ρ} {z:ρ} (N:Nat) (ex:Nat→α) (ey:Nat→β) (c:Nat→Bool) (no yes:ρ)
  (h:∀ i,i<N→∀ (H:α→β→Bool×ρ) K D,(W (ex i) (ey i)).ev H K D=bif c i then H (ex (i+1)) (ey (i+1)) else K no)
  (he:∀ (H:α→β→Bool×ρ) K D,(W (ex N) (ey N)).ev H K D=K yes):
  ∀ n i,N<i+n→i≤N→zJ W z n (ex i) (ey i)=(true,bif allN c (N - i) i then yes else no)
 | 0,i,h1,h2=>by omega
 | n+1,i,h1,h2=>by
  show (W (ex i) (ey i)).ev (zJ W z n) (fun r=>(true,r)) (false,z)=_
  by_cases hi:i<N
  ·rw [h i hi,show N - i=(N - (i+1))+1 by omega]
   simp only [allN];cases c i with
   | false=>rfl
   | true=>rw [cond_true,z2t N ex ey c no yes h he n (i+1) (by omega) (by omega)]; rfl
  ·have:i=N:=by omega
   subst this;rw [he,Nat.sub_self]; rfl
theorem zlO {W:α→β→Wy α β ρ} {z:ρ} (N:Nat) (ex:Nat→α) (ey:Nat→β) (c:Nat→Bool) (no yes:ρ)
  (h:∀ i,i<N→∀ (H:α→β→Bool×ρ) K D,(W (ex i) (ey i)).ev H K D=bif c i then H (ex (i+1)) (ey (i+1)) else K no)
  (he:∀ (H:α→β→Bool×ρ) K D,(W (ex N) (ey N)).ev H K D=K yes) (n:Nat) (hn:N<n):zJ W z n (ex 0) (ey 0)=(true,bif allN c N 0 then yes else no):=by
 have:=z2t (z:=z) N ex ey c no yes h he n 0 (by omega) (by omega)
 simpa using this
end
def ixf {α:Type} (p:α→Bool):List α→Nat→Int
 | [],_=> -1
 | x::r,i=>bif p x then (i:Int) else ixf p r (i+1)
theorem z4N {α:Type} (p:α→Bool):∀ (l:List α) (i:Nat),decide (ixf p l i≥(0:Int))=l.any p
 | [],i=>by simp [ixf]
 | x::r,i=>by
  rw [List.any_cons];cases h:p x with
  | true=>simp [ixf,h]
  | false=>simpa [ixf,h] using z4N p r (i+1)
section
variable {α γ:Type} [Inhabited α]
def zT3 (p:γ→α→Bool×Bool) (s:List α) (g:γ) (t7:Int) (t8:Int):Wy (List α×γ×Int×Int×Unit) (Unit) (Int⊕Unit):=.i (decide (t8<t7)) (.i (decide ((0:Int)≤t8)&&decide (t8<Int.ofNat s.length)) (.bn (p g (s.getD t8.toNat default)) fun r0=>.i (r0) (.k (.inl t8)) (.h (s,g,t7,(IntKind.i64.wrap (t8+(1:Int))),()) ())) .d) (.k (.inr ()))
def zPB (p:γ→α→Bool×Bool) (x:List α×γ×Int×Int×Unit) (y:Unit):Wy (List α×γ×Int×Int×Unit) (Unit) (Int⊕Unit):=zT3 p x.1 x.2.1 x.2.2.1 x.2.2.2.1
def z5e (p:γ→α→Bool×Bool) (n:Nat) (s:List α) (g:γ) (t7:Int) (t8:Int):Bool×(Int⊕Unit):=zJ (zPB p) (.inl default) n (s,g,t7,t8,()) ()
def IG (p:γ→α→Bool×Bool) (n:Nat) (g:γ) (s:List α):Bool×Int:=(.bn (z5e p n s g (Int.ofNat s.length) (0:Int)) fun r2=>.i (isL r2) (.k (getL r2)) (.k (-1:Int)):Wy0 Int).fin default
def z5B (p:γ→α→Bool×Bool) (s:List α) (g:γ) (t7:Int) (t8:Int):Wy (List α×γ×Int×Int×Unit) (Unit) (Int⊕Unit):=.i (decide (t8<t7)) (.i (decide ((0:Int)≤t8)&&decide (t8<Int.ofNat s.length)) (.i ((p g (s.getD t8.toNat default)).snd) (.k (.inl t8)) (.h (s,g,t7,(IntKind.i64.wrap (t8+(1:Int))),()) ())) .d) (.k (.inr ()))
def zbam (p:γ→α→Bool×Bool) (x:List α×γ×Int×Int×Unit) (y:Unit):Wy (List α×γ×Int×Int×Unit) (Unit) (Int⊕Unit):=z5B p x.1 x.2.1 x.2.2.1 x.2.2.2.1
def z5U (p:γ→α→Bool×Bool) (n:Nat) (s:List α) (g:γ) (t7:Int) (t8:Int):Bool×(Int⊕Unit):=zJ (zbam p) (.inl default) n (s,g,t7,t8,()) ()
def IH (p:γ→α→Bool×Bool) (n:Nat) (g:γ) (s:List α):Bool×Int:=(.bn (z5U p n s g (Int.ofNat s.length) (0:Int)) fun r2=>.i (isL r2) (.k (getL r2)) (.k (-1:Int)):Wy0 Int).fin default
theorem z49 (p:γ→α→Bool×Bool) (P:α→Bool) (g:γ) (s:List α) (hs:s.length≤1000000000) (hp:∀ x∈s,p g x=(true,P x)):∀ (n i:Nat),s.length<i+n→i≤s.length→
  ∃ r,z5e p n s g s.length i=(true,r)∧((r=.inl (ixf P (s.drop i) i))∨(r=.inr ()∧ixf P (s.drop i) i= -1))
 | 0,i,h,h2=>by omega
 | n+1,i,h,h2=>by
  show ∃ r,(zT3 p s g s.length i).ev (fun x y=>z5e p n x.1 x.2.1 x.2.2.1 x.2.2.2.1) (fun r=>(true,r)) (false,.inl default)=(true,r)∧_
  unfold zT3;by_cases hi:i<s.length
  ·simp only [Wy.ev_i,Wy.ev_k,Wy.ev_h,Wy.ev_bn,Wy.ev_d,tT,hi,hp _ (zS hi)];rw [zbT hi,zbV (by omega)]
   simp only [ixf];cases P (s.getD i default) with
   | true=>exact ⟨_,rfl,.inl rfl⟩
   | false=>exact z49 p P g s hs hp n (i+1) (by omega) (by omega)
  ·simp only [Wy.ev_i,Wy.ev_k,Wy.ev_h,Wy.ev_bn,Wy.ev_d,tT,hi,zez hi];exact ⟨_,rfl,.inr ⟨rfl,rfl⟩⟩
theorem zNY (p:γ→α→Bool×Bool) (P:α→Bool) (n:Nat) (g:γ) (s:List α) (hs:s.length≤1000000000) (hp:∀ x∈s,p g x=(true,P x)) (hn:s.length<n):IG p n g s=(true,ixf P s 0):=by
 unfold IG;obtain ⟨r,h1,h2⟩:=z49 p P g s hs hp n 0 (by omega) (by omega)
 rw [show ((0:Nat):Int)=(0:Int) from rfl] at h1
 rw [Wy.fin_bn,show Int.ofNat s.length=(s.length:Int) from rfl,h1]
 rw [List.drop_zero] at h2;rcases h2 with rfl | ⟨rfl,h2⟩
 ·rfl
 ·rw [h2]; rfl
theorem z5a (p:γ→α→Bool×Bool) (P:α→Bool) (g:γ) (s:List α) (hs:s.length≤1000000000) (hp:∀ x∈s,p g x=(true,P x)):∀ (n i:Nat),s.length<i+n→i≤s.length→
  ∃ r,z5U p n s g s.length i=(true,r)∧((r=.inl (ixf P (s.drop i) i))∨(r=.inr ()∧ixf P (s.drop i) i= -1))
 | 0,i,h,h2=>by omega
 | n+1,i,h,h2=>by
  show ∃ r,(z5B p s g s.length i).ev (fun x y=>z5U p n x.1 x.2.1 x.2.2.1 x.2.2.2.1) (fun r=>(true,r)) (false,.inl default)=(true,r)∧_
  unfold z5B;by_cases hi:i<s.length
  ·simp only [Wy.ev_i,Wy.ev_k,Wy.ev_h,Wy.ev_bn,Wy.ev_d,tT,hi,hp _ (zS hi)];rw [zbT hi,zbV (by omega)]
   simp only [ixf];cases P (s.getD i default) with
   | true=>exact ⟨_,rfl,.inl rfl⟩
   | false=>exact z5a p P g s hs hp n (i+1) (by omega) (by omega)
  ·simp only [Wy.ev_i,Wy.ev_k,Wy.ev_h,Wy.ev_bn,Wy.ev_d,tT,hi,zez hi];exact ⟨_,rfl,.inr ⟨rfl,rfl⟩⟩
theorem zbaB (p:γ→α→Bool×Bool) (P:α→Bool) (n:Nat) (g:γ) (s:List α) (hs:s.length≤1000000000) (hp:∀ x∈s,p g x=(true,P x)) (hn:s.length<n):IH p n g s=(true,ixf P s 0):=by
 unfold IH;obtain ⟨r,h1,h2⟩:=z5a p P g s hs hp n 0 (by omega) (by omega)
 rw [show ((0:Nat):Int)=(0:Int) from rfl] at h1
 rw [Wy.fin_bn,show Int.ofNat s.length=(s.length:Int) from rfl,h1]
 rw [List.drop_zero] at h2;rcases h2 with rfl | ⟨rfl,h2⟩
 ·rfl
 ·rw [h2]; rfl
theorem zon {α:Type} {s:List α} {P:α→Bool} {q:Bool×Int} (h:q=(true,ixf P s 0)):((.bn q fun r0=>.k (decide (r0≥(0:Int))):Wy0 Bool).fin default)=(true,s.any P):=by
 rw [h,Wy.fin_bn,cond_true,Wy.fin_k,z4N]
end
theorem beqd (a b:Int):(a==b)=decide (a=b):=by by_cases h:a=b <;>simp [h]
theorem beqn (a b:Nat):(a==b)=decide (a=b):=by by_cases h:a=b <;>simp [h]
theorem i0 (l:Nat):((l:Int)==0)=(l==0):=by
 rw [beqd,beqn]; congr 1; simp
def hasC (a:yC):Bool:=a.any fun t=>t.Factors.length==0
theorem z0I (a:yC) (h:a.length≤1000000000):zex a=(true,hasC a):=by
 unfold zex zxw zda zgR;have:zdx a=IH (fun (_:Unit) x=>zgj x) (a.length+(Int.ofNat a.length).toNat +Int.toNat (0:Int)+(1:Nat)) () a:=rfl
 rw [zon (P:=fun t:Term=>t.Factors.length==0) (this.trans (zbaB _ _ _ _ _ h (fun x _=>by
  unfold zgj zuw;rw [Wy.fin_k];congr 1;exact i0 x.Factors.length) (by omega)))]
 rfl
theorem zUq (a:yC) (h:a.length≤1000000000):zjy a=(true,hasC a):=by
 unfold zjy zJi zF3
 have:=zlO (W:=zyP) (z:=.inl default) a.length (fun i=>(a,(i:Int),())) (fun _=>()) (fun i=> !((a.getD i default).Factors.length==0)) (.inl true) (.inr ())
  (fun i hi H K D=>by
   show (znc a i).ev H K D=_;unfold znc;simp only [Wy.ev_i,Wy.ev_k,Wy.ev_h,Wy.ev_bn,Wy.ev_d,tT,hi,i0];rw [zbV (by omega)]
   cases (a.getD i default).Factors.length==0 <;>rfl)
  (fun H K D=>by
   show (znc a a.length).ev H K D=_;unfold znc;simp only [Wy.ev_i,Wy.ev_k,tT,Nat.lt_irrefl]) (a.length+Int.toNat (0:Int)+(1:Nat)) (by omega)
 rw [show ((0:Nat):Int)=(0:Int) from rfl] at this
 rw [Wy.fin_bn,this,zAB (fun t:Term=> !(t.Factors.length==0)) a]
 have e:(a.all fun t:Term=> !(t.Factors.length==0))= !hasC a:=by simp [hasC,List.all_eq_not_any_not]
 rw [e];cases hasC a <;>rfl
def isC:yC→Bool
 | [t]=>t.Factors.length==0
 | _=>false
theorem z10 (a:yC):zgs a=(true,isC a):=by
 unfold zgs zyy
 match a with
 | []=>rfl
 | [t]=>exact congrArg (Prod.mk true) (i0 t.Factors.length)
 | t::u::r=>
  have:((Int.ofNat (t::u::r).length)==(1:Int))=false:=by simp; omega
  rw [Wy.fin_i,this]; rfl
def oneF (p:Factor→Bool):yD→Bool
 | [f]=>p f
 | _=>false
def isU:yC→Bool
 | [t]=>t.Coeff==1&&oneF (fun f=>f.Exp==1&&(f.Atom.Kind==2||f.Atom.Kind==3||f.Atom.Kind==4)) t.Factors
 | _=>false
theorem z4D (x:Atom):zeZ x=(true,x.Kind==3||x.Kind==4):=by
 unfold zeZ zyF;rw [Wy.fin_i,Wy.fin_k,Wy.fin_k];cases x.Kind==3 <;>rfl
theorem len2 {τ:Type} (x y:τ) (r:List τ):((Int.ofNat (x::y::r).length)==(1:Int))=false:=by
 rw [beq_eq_false_iff_ne]; simp; omega
theorem z6B (a:yC):zkD a=(true,isU a):=by
 unfold zkD zCk
 match a with
 | []=>rfl
 | ⟨c,[]⟩::[]=>
  show (bif c != 1 then (true,false) else (true,false))=(true,c==1&&false)
  cases c != 1 <;>simp
 | ⟨c,[f]⟩::[]=>
  simp only [Wy.fin_i,Wy.fin_k,tT,isU,List.length_singleton,z4D,Wy.fin_bn,Wy.fin_d];show (bif c != 1 then (true,false) else bif f.Exp==1 then bif f.Atom.Kind==2 then (true,true) else (true,f.Atom.Kind==3||f.Atom.Kind==4) else (true,false))=(true,c==1&&(f.Exp==1&&(f.Atom.Kind==2||f.Atom.Kind==3||f.Atom.Kind==4)))
  rw [show (c != 1)= !(c==1) from rfl]
  cases c==1 <;>cases f.Exp==1 <;>cases f.Atom.Kind==2 <;>simp
 | ⟨c,f::g::r⟩::[]=>
  simp only [Wy.fin_i,bne,len2];show (bif !(c==1) then (true,false) else (true,false))=(true,c==1&&false)
  cases c==1 <;>rfl
 | t::u::r=>rw [Wy.fin_i,bne,len2]; rfl
def isB:yC→Bool
 | [t]=>t.Coeff==1&&oneF (fun f=>f.Exp==1&&decide (2≤f.Atom.Kind)) t.Factors
 | _=>false
theorem zZm (a:yC):zpv a=(true,isB a):=by
 unfold zpv zM8
 match a with
 | []=>rfl
 | ⟨c,[]⟩::[]=>
  show (bif c==1 then (true,false) else (true,false))=(true,c==1&&false)
  cases c==1 <;>rfl
 | ⟨c,[f]⟩::[]=>
  simp only [Wy.fin_i,Wy.fin_k,tT,List.length_singleton,Wy.fin_bn,Wy.fin_d];show (bif c==1 then bif decide (2≤f.Atom.Kind) then (true,f.Exp==1) else (true,false) else (true,false))=(true,c==1&&(f.Exp==1&&decide (2≤f.Atom.Kind)))
  cases c==1 <;>cases f.Exp==1 <;>cases decide (2≤f.Atom.Kind) <;>simp
 | ⟨c,f::g::r⟩::[]=>
  rw [Wy.fin_i];show (bif true then (Wy.i true (Wy.i (c==1) (Wy.i true (Wy.i (Int.ofNat (f::g::r).length==1) _ (.k false)) .d) (.k false)) .d:Wy0 Bool).fin default else _)=(true,c==1&&false)
  simp only [Wy.fin_i,Wy.fin_k,len2,cond_true,cond_false];cases c==1 <;>rfl
 | t::u::r=>rw [Wy.fin_i,len2]; rfl
theorem zMQ (a b:Nat):decide (a>b)= !decide (a≤b):=by
 by_cases h:a≤b
 ·have:¬ a>b:=by omega
  simp [h,this]
 ·have:a>b:=by omega
  simp [h,this]
def withF (t:Term):Bool:= !(decide (t.Factors.length>64)||t.Factors.any fun f=>decide (f.Exp>64)||decide (f.Atom.Items.length>1024))
def zlI (a:yC):Bool:=decide (a.length≤512)&&decide (zbu a≤8)&&decide (zT a≤4096)&&a.all withF
theorem z5l (l:yD) (h:l.length≤1000000):zcg l=(true,l.any fun f=>decide (f.Exp>64)||decide (f.Atom.Items.length>1024)):=by
 unfold zcg zhf
 have hw:zdc=zPB (fun (_:Unit) x=>zfp x):=by
  funext x y
  unfold zdc zio zPB zT3;rw [Factor.eta2]
 have:zcA l=IG (fun (_:Unit) x=>zfp x) (l.length+(Int.ofNat l.length).toNat +Int.toNat (0:Int)+(1:Nat)) () l:=by
  unfold zcA zix zil;rw [hw]; rfl
 exact zon (this.trans (zNY _ _ _ _ _ (by omega) (fun x _=>by
  unfold zfp zwN;rw [Wy.fin_i,Wy.fin_k,Wy.fin_k];have e:decide (Int.ofNat x.Atom.Items.length>(1024:Int))=decide (x.Atom.Items.length>1024):=ztQ _ 1024;rw [e];cases decide (x.Exp>64) <;>rfl) (by omega)))
theorem z6Y {d:Nat} {a:yC} (h:zA d a) (hd:d≤100) (hs:zT a≤4611686018427387904):zkE a=(true,zlI a):=by
 obtain ⟨h1,h2⟩:a.length≤1000000∧∀ t∈a,t.Factors.length≤1000000:=by
  cases d with
  | zero=>exact h.elim
  | succ d=>exact ⟨h.1,fun t ht=>(h.2 t ht).1⟩
 have h3:zb6 a=(true,a.any fun t=> !withF t):=by
  unfold zb6 zgJ;have:zdy a=IG (fun (_:Unit) x=>zjW x) (a.length+(Int.ofNat a.length).toNat +Int.toNat (0:Int)+(1:Nat)) () a:=rfl
  exact zon (this.trans (zNY _ _ _ _ _ (by omega) (fun x hx=>by
   unfold zjW zy9;rw [Wy.fin_i,Wy.fin_k,Wy.fin_bn,z5l _ (h2 x hx)];have e:decide (Int.ofNat x.Factors.length>(64:Int))=decide (x.Factors.length>64):=ztQ _ 64;rw [e];unfold withF;cases decide (x.Factors.length>64) <;>simp [Wy.fin_k]) (by omega)))
 unfold zkE zCs;have n1:zxJ a=(true,(zbu a:Int)):=(z0f 1000 d a h (by omega) hd).1
 have n2:zBm a=(true,(zT a:Int)):=(zW4 1000 d a h (by omega) hs).1
 simp only [Wy.fin_i,Wy.fin_k,Wy.fin_bn,n1,n2,h3,cond_true];have e1:decide (Int.ofNat a.length>(512:Int))= !decide (a.length≤512):=by rw [show decide (Int.ofNat a.length>(512:Int))=decide (a.length>512) from ztQ _ 512]; exact zMQ _ _
 have e2:decide ((zbu a:Int)>(8:Int))= !decide (zbu a≤8):=by rw [show decide ((zbu a:Int)>(8:Int))=decide (zbu a>8) from ztQ _ 8]; exact zMQ _ _
 have e3:decide ((zT a:Int)>(4096:Int))= !decide (zT a≤4096):=by rw [show decide ((zT a:Int)>(4096:Int))=decide (zT a>4096) from ztQ _ 4096]; exact zMQ _ _
 have e4:(a.any fun t=> !withF t)= !a.all withF:=by simp [List.all_eq_not_any_not]
 rw [e1,e2,e3,e4];unfold zlI;cases decide (a.length≤512) <;>cases decide (zbu a≤8) <;>cases decide (zT a≤4096) <;>simp
theorem z9Q (a:yC) (i:Nat) (hi:i<a.length) (hl:(a.getD i default).Factors.length≤1000000) (fuel:Nat) (hf:(a.getD i default).Factors.length<fuel):
  zP1 fuel a i 0=(true,bif (a.getD i default).Factors.any fun f=>decide (f.Exp>64)||decide (f.Atom.Items.length>1024) then .inl false else .inr (a,(i:Int))):=by
 have:=zlO (W:=zFp) (z:=.inl default) (a.getD i default).Factors.length (fun k=>(a,(i:Int),(k:Int),())) (fun _=>()) (fun k=>(fun f:Factor=> !(decide (f.Exp>64)||decide (f.Atom.Items.length>1024))) ((a.getD i default).Factors.getD k default)) (.inl false) (.inr (a,(i:Int)))
  (fun k hk H K D=>by
   show (zvy a i k).ev H K D=_;unfold zvy;simp only [Wy.ev_i,Wy.ev_k,Wy.ev_h,Wy.ev_bn,Wy.ev_d,tT,hi,hk];rw [zbV (by omega),show decide ((((a.getD i default).Factors.getD k default).Atom.Items.length:Int)>(1024:Int))=_ from ztQ _ 1024]
   cases decide (((a.getD i default).Factors.getD k default).Exp>64) <;>cases decide (1024<((a.getD i default).Factors.getD k default).Atom.Items.length) <;>rfl)
  (fun H K D=>by
   show (zvy a i (a.getD i default).Factors.length).ev H K D=_;unfold zvy;simp only [Wy.ev_i,Wy.ev_k,Wy.ev_h,Wy.ev_bn,Wy.ev_d,tT,hi,Nat.lt_irrefl]) fuel hf
 rw [zAB (fun f:Factor=> !(decide (f.Exp>64)||decide (f.Atom.Items.length>1024)))] at this
 have e:((a.getD i default).Factors.all fun f=> !(decide (f.Exp>64)||decide (f.Atom.Items.length>1024)))= !((a.getD i default).Factors.any fun f=>decide (f.Exp>64)||decide (f.Atom.Items.length>1024)):=by simp [List.all_eq_not_any_not]
 rw [e] at this;refine this.trans ?_;cases (a.getD i default).Factors.any fun f=>decide (f.Exp>64)||decide (f.Atom.Items.length>1024) <;>rfl
theorem z8G {d:Nat} {a:yC} (h:zA d a) (hd:d≤100) (hs:zT a≤4611686018427387904):zyl a=(true,zlI a):=by
 obtain ⟨h1,h2⟩:a.length≤1000000∧∀ t∈a,t.Factors.length≤1000000:=by
  cases d with
  | zero=>exact h.elim
  | succ d=>exact ⟨h.1,fun t ht=>(h.2 t ht).1⟩
 have h3:zPY ((a.length+Int.toNat (0:Int)+(1:Nat))+szTs a) a 0=(true,bif a.all withF then .inr () else .inl false):=by
  have:=zlO (W:=zFo) (z:=.inl default) a.length (fun k=>(a,(k:Int),())) (fun _=>()) (fun k=>withF (a.getD k default)) (.inl false) (.inr ())
   (fun k hk H K D=>by
    show (zvC a k).ev H K D=_;unfold zvC;have h4:=h2 _ (zS hk);have h5:=zJo a k hk;simp only [Wy.ev_i,Wy.ev_k,Wy.ev_h,Wy.ev_bn,Wy.ev_d,tT,hk];rw [z9Q a k hk h4 _ (by omega)]
    have e:decide (((a.getD k default).Factors.length:Int)>(64:Int))=decide ((a.getD k default).Factors.length>64):=ztQ _ 64;rw [e];unfold withF;cases decide ((a.getD k default).Factors.length>64) <;>cases ((a.getD k default).Factors.any fun f=>decide (f.Exp>64)||decide (f.Atom.Items.length>1024))
    ·simp only [cond_false,cond_true,isL,getR]; rw [zbV (by omega)]; rfl
    all_goals rfl)
   (fun H K D=>by
    show (zvC a a.length).ev H K D=_;unfold zvC;simp only [Wy.ev_i,Wy.ev_k,Wy.ev_h,Wy.ev_bn,Wy.ev_d,tT,Nat.lt_irrefl]) ((a.length+Int.toNat (0:Int)+(1:Nat))+szTs a) (by omega)
  rw [zAB] at this;exact this
 unfold zyl zSS;have n1:zFY a=(true,(zbu a:Int)):=(z0f 1000 d a h (by omega) hd).2
 have n2:zPe a=(true,(zT a:Int)):=(zW4 1000 d a h (by omega) hs).2
 simp only [Wy.fin_i,Wy.fin_k,Wy.fin_bn,n1,n2,h3,cond_true];have e1:decide (Int.ofNat a.length>(512:Int))= !decide (a.length≤512):=by rw [show decide (Int.ofNat a.length>(512:Int))=decide (a.length>512) from ztQ _ 512]; exact zMQ _ _
 have e2:decide ((zbu a:Int)>(8:Int))= !decide (zbu a≤8):=by rw [show decide ((zbu a:Int)>(8:Int))=decide (zbu a>8) from ztQ _ 8]; exact zMQ _ _
 have e3:decide ((zT a:Int)>(4096:Int))= !decide (zT a≤4096):=by rw [show decide ((zT a:Int)>(4096:Int))=decide (zT a>4096) from ztQ _ 4096]; exact zMQ _ _
 rw [e1,e2,e3];unfold zlI;cases decide (a.length≤512) <;>cases decide (zbu a≤8) <;>cases decide (zT a≤4096) <;>cases a.all withF <;>simp [isL,getL]
def valV (v:Value):Bool:=(v.Kind==0&&v.Text.size==0)||(v.Kind==1&&v.Int==0&&decide (v.Text.size≤255))||(v.Kind==2&&v.Text.size==0&&(v.Int==0||v.Int==1))
theorem z2Z (s:ByteArray):(s.toList==(ByteArray.mk #[]).toList)=(s.size==0):=by
 rw [zSh];by_cases h:s.size=0
 ·have:s=ByteArray.mk #[]:=zEq (by
   have:s.data.toList.length=0:=by simpa using h
   rw [List.length_eq_zero_iff.1 this])
  subst this; rfl
 ·have:¬ s=ByteArray.mk #[]:=fun e=>h (by rw [e]; rfl)
  simp [h,this]
theorem zNx (v:Value):zsq v=(true,valV v):=by
 unfold zsq zPL valV;simp only [z2Z,Wy.fin_i,Wy.fin_k,beqd,beqn];have e:decide (Int.ofNat v.Text.size≤(255:Int))=decide (v.Text.size≤255):=zza _ 255;rw [e];by_cases h0:v.Kind=0
 ·simp [h0]
 ·by_cases h1:v.Kind=1
  ·by_cases h2:v.Int=0 <;>simp [h1,h2]
  ·by_cases h2:v.Kind=2
   ·by_cases h3:v.Int=0
    ·simp [h2,h3]
    ·by_cases h4:v.Int=1 <;>simp [h2,h3,h4]
   ·simp [h0,h1,h2]
theorem zNc (v:Value):zv7 v=(true,valV v):=by
 unfold zv7 zPQ valV;simp only [z2Z,Wy.fin_i,Wy.fin_k,beqd,beqn];have e:decide (Int.ofNat v.Text.size≤(255:Int))=decide (v.Text.size≤255):=zza _ 255;rw [e];by_cases h0:v.Kind=0
 ·simp [h0]
 ·by_cases h1:v.Kind=1
  ·by_cases h2:v.Int=0 <;>simp [h1,h2]
  ·by_cases h2:v.Kind=2
   ·by_cases h3:v.Int=0
    ·by_cases h4:v.Text.size=0 <;>simp [h2,h3,h4]
    ·by_cases h4:v.Text.size=0 <;>simp [h2,h3,h4]
   ·simp [h0,h1,h2]
def fitI (fn:Int) (b:Value) (w:Weighted):Bool:=valV w.Value&&(w.Value.Kind==b.Kind)&& !(fn==0&&w.Value.Int != 1)
def fitK (fn:Int) (l:yE) (op:Int) (b:Value):Bool:=decide (0≤fn)&&decide (fn≤3)&&decide (5≤op)&&decide (op≤10)&&valV b&& !(decide (fn≤1)&&b.Kind != 0)&&l.all (fitI fn b)
theorem z74 (l:yE) (fn:Int) (b:Value) (h:l.length≤1000000):zbs l b fn=(true, !l.all (fitI fn b)):=by
 unfold zbs zfT;have:zc7 l b fn=IG (fun (g:Value×(Int×Unit)×Unit) x=>zgz x g.1 g.2.1.1) (l.length+fn.toNat +(Int.ofNat l.length).toNat +Int.toNat (0:Int)+(1:Nat)) (b,(fn,()),()) l:=rfl
 have e:(!l.all (fitI fn b))=l.any fun w=> !fitI fn b w:=by simp [List.all_eq_not_any_not]
 rw [e]
 exact zon (this.trans (zNY _ _ _ _ _ (by omega) (fun x _=>by
  show zgz x b fn=_;unfold zgz zyD fitI;simp only [Wy.fin_i,Wy.fin_k,Wy.fin_bn,zNx,cond_true,beqd,bne0];cases valV x.Value <;>by_cases h1:x.Value.Kind=b.Kind <;>by_cases h2:fn=0 <;>simp [beqd,bne0,h1,h2]) (by omega)))
theorem z5t (fn:Int) (l:yE) (op:Int) (b:Value) (h:l.length≤1000000):zjr fn l op b=(true,fitK fn l op b):=by
 unfold zjr zBp fitK;simp only [Wy.fin_i,Wy.fin_k,Wy.fin_bn,zNx,z74 l fn b h,cond_true,beqd,bne0];by_cases h1:fn<0
 ·have:¬ (0≤fn):=by omega
  simp [h1,this]
 by_cases h2:3<fn
 ·have:¬ (fn≤3):=by omega
  simp [h1,h2,this]
 by_cases h3:op<5
 ·have:¬ (5≤op):=by omega
  simp [h1,h2,h3,this]
 by_cases h4:10<op
 ·have:¬ (op≤10):=by omega
  simp [h1,h2,h3,h4,this]
 have g1:0≤fn:=by omega
 have g2:fn≤3:=by omega
 have g3:5≤op:=by omega
 have g4:op≤10:=by omega
 cases valV b with
 | false=>simp [h1,h2,h3,h4]
 | true=>
  by_cases h5:fn=0
  ·subst h5; by_cases h6:b.Kind=0 <;>simp [h3,h4,h6,g3,g4]
  ·by_cases h7:fn=1
   ·subst h7; by_cases h6:b.Kind=0 <;>simp [h3,h4,h6,g3,g4]
   ·have:¬ fn≤1:=by omega
    simp [h1,h2,h3,h4,h5,h7,this,g1,g2,g3,g4]
theorem z8c (fn:Int) (l:yE) (op:Int) (b:Value) (h:l.length≤1000000):zy6 fn l op b=(true,fitK fn l op b):=by
 unfold zy6 zP0 fitK
 have hl:zCH (fn.toNat +l.length+Int.toNat (0:Int)+(1:Nat)) fn l (0:Int) b=(true,bif l.all (fitI fn b) then .inr () else .inl false):=by
  have:=zlO (W:=zCK) (z:=.inl default) l.length (fun k=>(fn,l,(),(k:Int),())) (fun _=>(b,())) (fun k=>fitI fn b (l.getD k default)) (.inl false) (.inr ())
   (fun k hk H K D=>by
    show (ztK fn l k b).ev H K D=_;unfold ztK fitI;simp only [Wy.ev_i,Wy.ev_k,Wy.ev_h,Wy.ev_bn,Wy.ev_d,tT,hk,zNc,beqd,bne0];rw [zbV (by omega)]
    cases valV (l.getD k default).Value <;>cases decide ((l.getD k default).Value.Kind=b.Kind) <;>cases decide (fn=0) <;>cases decide ((l.getD k default).Value.Int=1) <;>rfl)
   (fun H K D=>by
    show (ztK fn l l.length b).ev H K D=_;unfold ztK;simp only [Wy.ev_i,Wy.ev_k,Wy.ev_h,Wy.ev_bn,Wy.ev_d,tT,Nat.lt_irrefl]) (fn.toNat +l.length+Int.toNat (0:Int)+(1:Nat)) (by omega)
  rw [zAB] at this;exact this
 simp only [Wy.fin_i,Wy.fin_k,Wy.fin_bn,zNc,hl,cond_true,beqd,bne0];by_cases h1:fn<0
 ·have:¬ (0≤fn):=by omega
  simp [h1,this]
 by_cases h2:3<fn
 ·have:¬ (fn≤3):=by omega
  simp [h1,h2,this]
 by_cases h3:op<5
 ·have:¬ (5≤op):=by omega
  simp [h1,h2,h3,this]
 by_cases h4:10<op
 ·have:¬ (op≤10):=by omega
  simp [h1,h2,h3,h4,this]
 have g1:0≤fn:=by omega
 have g2:fn≤3:=by omega
 have g3:5≤op:=by omega
 have g4:op≤10:=by omega
 cases valV b with
 | false=>simp [h1,h2,h3,h4]
 | true=>
  by_cases h5:fn≤1
  ·by_cases h6:b.Kind=0
   ·cases l.all (fitI fn b) <;>simp [h1,h2,h3,h4,h5,h6,g1,g2,g3,g4,isL,getL]
   ·simp [h1,h2,h3,h4,h5,h6,g1,g2,g3,g4]
  ·cases l.all (fitI fn b) <;>simp [h1,h2,h3,h4,h5,g1,g2,g3,g4,isL,getL]
def bz (b:Value):Bool:=b.Kind==(0:Int)&&(b.Int==(0:Int)&&(b.Text.toList==(ByteArray.mk #[]).toList&&true))
def plA (x:Atom):Bool:=x.Func==0&&(x.Items.length==0)&&x.Op==0&&bz x.Bound
theorem z8e (x:Atom):zop x=(true,plA x):=by
 unfold zop zPT plA;simp only [Wy.fin_i,Wy.fin_k,Int.ofNat_eq_natCast,i0];show _=(true,_&&_&&_&&bz x.Bound);rw [show (x.Bound.Kind==(0:Int)&&(x.Bound.Int==(0:Int)&&(x.Bound.Text.toList==(ByteArray.mk #[]).toList&&true)))=bz x.Bound from rfl]
 cases x.Func==0 <;>cases x.Items.length==0 <;>cases x.Op==0 <;>rfl
def srtI (l:yE) (k:Nat):Bool:=decide (k=0)||decide (cmpT (zfE (l.getD (k - 1) default)) (zfE (l.getD k default))≤0)
def srtW (l:yE):Bool:=allN (srtI l) l.length 0
theorem z05 (c:Nat→Bool):∀ n i,allN c (n+1) i=(allN c n i&&c (i+n))
 | 0,i=>by simp [allN]
 | n+1,i=>by
  rw [allN,z05 c n (i+1),allN,show i+1+n=i+(n+1) by omega,Bool.and_assoc]
theorem zPZ {d:Nat} (l:yE) (hl:l.length≤1000000) (h:∀ w∈l,zA d w.Ann) (hd:d≤99):∀ (n i:Nat),i<l.length→i<n→zdZ n l i=(true,bif allN (srtI l) (i+1) 0 then .inr () else .inl false)
 | 0,i,hi,hn=>by omega
 | n+1,i,hi,hn=>by
  show (zdY l i).ev (fun x y=>zdZ n x.1 x.2.2.1) (fun r=>(true,r)) (false,.inl default)=_
  unfold zdY;have hg:decide ((i:Int)>(0:Int))=decide (0<i):=ztQ i 0;cases i with
  | zero=>simp [Wy.ev_i,Wy.ev_k,allN,srtI]
  | succ i=>
   have hi':i<l.length:=by omega
   have hw:IntKind.i64.wrap (((i+1:Nat):Int) - 1)=(i:Int):=by rw [zxu (by omega) (by omega)]; rfl
   have hp:decide (0<i+1)=true:=by simp
   simp only [Wy.ev_i,Wy.ev_k,Wy.ev_h,Wy.ev_bn,Wy.ev_d,hg,hp,hw,tT,hi,hi',zF2 (h _ (zS hi)) hd];rw [zPZ l hl h hd n i hi' (by omega),z05 _ (i+1),Nat.zero_add]
   have:srtI l (i+1)= !decide (cmpT (zfE (l.getD (i+1) default)) (zfE (l.getD i default))<0):=by
    unfold srtI;rw [show i+1 - 1=i from rfl,zun (zfE (l.getD (i+1) default)) (zfE (l.getD i default))]
    generalize cmpT (zfE (l.getD (i+1) default)) (zfE (l.getD i default))=z;by_cases hz:z<0
    ·have:¬ (-z≤0):=by omega
     simp [hz,this]
    ·have:(-z≤0):=by omega
     simp [hz,this]
   rw [this];cases decide (cmpT (zfE (l.getD (i+1) default)) (zfE (l.getD i default))<0) <;>simp
theorem z4d {d:Nat} (l:yE) (hl:l.length≤1000000) (h:∀ w∈l,zA d w.Ann) (hd:d≤99):zb8 l=(true,srtW l):=by
 unfold zb8 zg2 srtW
 match l,hl,h with
 | [],_,_=>rfl
 | x::r,hl,h=>
  have hw:IntKind.i64.wrap (Int.ofNat (x::r).length - 1)=(r.length:Int):=by
   rw [qf] at hl;rw [show Int.ofNat (x::r).length=(((x::r).length:Nat):Int) from rfl,zxu (by simp) (by simp; omega)]; rfl
  rw [Wy.fin_bn,hw,zPZ (x::r) hl h hd _ r.length (by simp) (by simp; omega)]
  cases allN (srtI (x::r)) (r.length+1) 0 with
  | true=>simp [Wy.fin_i,Wy.fin_k,isL]
  | false=>simp [Wy.fin_i,Wy.fin_k,isL,getL]
end Go.Proofs.YtljlfiomikifjaaGreatDoor
end
