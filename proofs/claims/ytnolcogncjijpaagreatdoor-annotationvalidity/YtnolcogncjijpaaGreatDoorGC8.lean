/- Texts of this claim, joined (the program, its functions in plain words, and what they compute). -/
import Derived.Test.YtnolcogncjijpaaGreatDoorGC7
set_option autoImplicit false
set_option linter.unusedVariables false
set_option linter.unusedSectionVars false
set_option linter.unusedSimpArgs false
set_option maxRecDepth 1000000
set_option maxHeartbeats 0
/- Copies are equal to what they are copied from; results within the limits. -/
noncomputable section
namespace Go.Proofs.YtnolcogncjijpaaGreatDoor
open Go Go.Ab
section
variable (g:yB->Bool×yB)
end
section
variable {α β ρ τ:Type} [Inhabited τ]
theorem zVR (p:τ->Bool):∀ l:List τ,l.take (l.takeWhile p).length=l.takeWhile p
 | []=>rfl
 | x::r=>by
  rw [List.takeWhile_cons];cases p x with
  | true=>simp [zVR p r]
  | false=>simp
theorem zWd (p:τ->Bool):∀ l:List τ,l.drop (l.takeWhile p).length=l.dropWhile p
 | []=>rfl
 | x::r=>by
  rw [List.takeWhile_cons,List.dropWhile_cons];cases p x with
  | true=>simp [zWd p r]
  | false=>simp
theorem zS8 {W:α->β->Wy α β ρ} {z:ρ} (l:List τ) (p:τ->Bool) (ex:Nat->α) (ey:Nat->β) (res:Nat->ρ)
  (h:∀ i,i<l.length->∀ (H:α->β->Bool×ρ) K D,(W (ex i) (ey i)).ev H K D=bif p (l.getD i default) then H (ex (i+1)) (ey (i+1)) else K (res i))
  (he:∀ (H:α->β->Bool×ρ) K D,(W (ex l.length) (ey l.length)).ev H K D=K (res l.length)):
  ∀ n i,l.length<i+n->i<=l.length->zN W z n (ex i) (ey i)=(true,res (i+((l.drop i).takeWhile p).length))
 | 0,i,h1,h2=>by omega
 | n+1,i,h1,h2=>by
  show (W (ex i) (ey i)).ev (zN W z n) (λr=>(true,r)) (false,z)=_
  by_cases hi:i<l.length
  ·rw [h i hi,zbb hi,List.takeWhile_cons];cases hp:p (l.getD i default) with
   | false=>simp
   | true=>
    rw [cond_true,zS8 l p ex ey res h he n (i+1) (by omega) (by omega)]
    simp only [if_true,qf];congr 2; omega
  ·have:i=l.length:=by omega
   subst this;rw [he,zdA hi]; rfl
theorem zWq {W:α->β->Wy α β ρ} {z:ρ} (l:List τ) (p:τ->Bool) (ex:Nat->α) (ey:Nat->β) (res:Nat->ρ)
  (h:∀ i,i<l.length->∀ (H:α->β->Bool×ρ) K D,(W (ex i) (ey i)).ev H K D=bif p (l.getD i default) then H (ex (i+1)) (ey (i+1)) else K (res i))
  (he:∀ (H:α->β->Bool×ρ) K D,(W (ex l.length) (ey l.length)).ev H K D=K (res l.length)) (n:Nat) (hn:l.length<n):
  zN W z n (ex 0) (ey 0)=(true,res (l.takeWhile p).length):=by
 have:=zS8 (z:=z) l p ex ey res h he n 0 (by omega) (by omega)
 simpa using this
end
theorem zZZ {τ:Type} (l:List τ) (k:Nat):List.take (k - Int.toNat 0) (List.drop (Int.toNat 0) l)=l.take k:=by simp
theorem zZv {τ:Type} (l:List τ) (k:Nat):List.take ((Int.ofNat l.length).toNat - k) (List.drop k l)=l.drop k:=by
 simp only [Int.ofNat_eq_natCast,Int.toNat_natCast];rw [List.take_of_length_le (by simp)]
theorem z0e {τ:Type} (l:List τ) (p:τ->Bool):(l.takeWhile p).length<=l.length:=(List.takeWhile_prefix p).length_le
end Go.Proofs.YtnolcogncjijpaaGreatDoor
/- The rows of annotations: what the program visits. -/
set_option maxRecDepth 100000
namespace Go.Proofs.YtnolcogncjijpaaGreatDoor
open Go Go.Ab
section
variable {α β ρ τ σ:Type} [Inhabited τ]
theorem itF {W:α->β->Wy α β ρ} {z:ρ} (l:List τ) (ex:Nat->σ->α) (ey:Nat->σ->β) (f:σ->τ->σ) (res:σ->ρ) (I:Nat->σ->Prop)
  (h:∀ i s,i<l.length->I i s->I (i+1) (f s (l.getD i default))/\∀ (H:α->β->Bool×ρ) K D,(W (ex i s) (ey i s)).ev H K D=H (ex (i+1) (f s (l.getD i default))) (ey (i+1) (f s (l.getD i default))))
  (he:∀ s,I l.length s->∀ (H:α->β->Bool×ρ) K D,(W (ex l.length s) (ey l.length s)).ev H K D=K (res s)):∀ (n i:Nat) (s:σ),l.length<i+n->i<=l.length->I i s->zN W z n (ex i s) (ey i s)=(true,res ((l.drop i).foldl f s))
 | 0,i,s,h1,h2,hI=>by omega
 | n+1,i,s,h1,h2,hI=>by
  show (W (ex i s) (ey i s)).ev (zN W z n) (λr=>(true,r)) (false,z)=_
  by_cases hi:i<l.length
  ·obtain ⟨hI',e⟩:=h i s hi hI;rw [e,itF l ex ey f res I h he n (i+1) _ (by omega) (by omega) hI',zbb hi,List.foldl_cons]
  ·obtain rfl:i=l.length:=by omega
   rw [he s hI,List.drop_length]; rfl
theorem zFq {W:α->β->Wy α β ρ} {z:ρ} (l:List τ) (ex:Nat->σ->α) (ey:Nat->σ->β) (f:σ->τ->σ) (res:σ->ρ) (I:Nat->σ->Prop)
  (h:∀ i s,i<l.length->I i s->I (i+1) (f s (l.getD i default))/\∀ (H:α->β->Bool×ρ) K D,(W (ex i s) (ey i s)).ev H K D=H (ex (i+1) (f s (l.getD i default))) (ey (i+1) (f s (l.getD i default))))
  (he:∀ s,I l.length s->∀ (H:α->β->Bool×ρ) K D,(W (ex l.length s) (ey l.length s)).ev H K D=K (res s)) (n:Nat) (s:σ) (hn:l.length<n) (h0:I 0 s):zN W z n (ex 0 s) (ey 0 s)=(true,res (l.foldl f s)):=by
 have:=itF (z:=z) l ex ey f res I h he n 0 s (by omega) (by omega) h0
 simpa using this
end
mutual
def zz4:At->yE
 | ⟨k,r,a,_,i,_,_⟩=>(if k=0 then [r] else [])++(zo8 a++zqi i)
def zia:yC->yE
 | []=>[]
 | ⟨x,_⟩::r=>zz4 x++zia r
def zik:yB->yE
 | []=>[]
 | ⟨_,fs⟩::r=>zia fs++zik r
def zo8:yA->yE
 | []=>[]
 | a::r=>zik a++zo8 r
def zqi:yD->yE
 | []=>[]
 | ⟨_,a⟩::r=>zik a++zqi r
end
mutual
theorem zIO:∀ x:At,(zz4 x).length<=1+zqb x
 | ⟨k,r,a,f,i,o,b⟩=>by
  have h1:=zBN a;have h2:=zPc i;rw [zz4,zqb,qg,qg];split <;>simp <;>omega
theorem zvf:∀ l:yC,(zia l).length<=l.length+zbS l
 | []=>by rw [zia]; simp
 | ⟨x,e⟩::r=>by
  have h1:=zIO x;have h2:=zvf r;rw [zia,zbS,qg,qf];omega
theorem zoQ:∀ a:yB,(zik a).length<=zbM a
 | []=>by rw [zik]; simp
 | ⟨c,fs⟩::r=>by
  have h1:=zvf fs;have h2:=zoQ r;rw [zik,zbM,qg];omega
theorem zBN:∀ l:yA,(zo8 l).length<=zeU l
 | []=>by rw [zo8]; simp
 | a::r=>by
  have h1:=zoQ a;have h2:=zBN r;rw [zo8,zeU,qg];omega
theorem zPc:∀ l:yD,(zqi l).length<=zcX l
 | []=>by rw [zqi]; simp
 | ⟨v,a⟩::r=>by
  have h1:=zoQ a;have h2:=zPc r;rw [zqi,zcX,qg];omega
end
theorem zMN (x:At):zz4 x=(if x.Kind=0 then [x.Row] else [])++(zo8 x.Ag++zqi x.Items):=by cases x; rw [zz4]
theorem zIH:∀ (l:yA) (o:yE),l.foldl (λo b=>o++zik b) o=o++zo8 l
 | [],o=>by rw [zo8]; simp
 | a::r,o=>by rw [List.foldl_cons,zIH r,zo8,List.append_assoc]
theorem zGs:∀ (l:yD) (o:yE),l.foldl (λo w=>o++zik w.Ann) o=o++zqi l
 | [],o=>by rw [zqi]; simp
 | ⟨v,a⟩::r,o=>by rw [List.foldl_cons,zGs r,zqi,List.append_assoc]
theorem zA5:∀ (l:yC) (o:yE),l.foldl (λo x=>o++zz4 x.At) o=o++zia l
 | [],o=>by rw [zia]; simp
 | ⟨x,e⟩::r,o=>by rw [List.foldl_cons,zA5 r,zia,List.append_assoc]
theorem zGl:∀ (l:yB) (o:yE),l.foldl (λo t=>o++zia t.Fs) o=o++zik l
 | [],o=>by rw [zik]; simp
 | ⟨c,fs⟩::r,o=>by rw [List.foldl_cons,zGl r,zik,List.append_assoc]
theorem zYx (x:At) (o:yE) (ho:o.length<=1000000):zg7 x o=(true,o++if x.Kind=0 then [x.Row] else []):=by
 have hreach:zbO=70368744177664:=rfl;unfold zg7 zl0;rw [Wy.fin_i,Wy.fin_i,Wy.fin_k,Wy.fin_k,List.length_singleton,decide_eq_true (by omega),cond_true]
 by_cases h:x.Kind=0
 ·rw [if_pos h,h]; rfl
 ·rw [if_neg h,List.append_nil,show (x.Kind==(0:Int))=false from beq_false_of_ne h]; rfl
section
variable (g:yB->yE->Bool×yE)
def evG (b:yB):Prop:=∀ o:yE,o.length+zbM b<=1000000->g b o=(true,o++zik b)
variable (t12:yB) (t13 t14:Int) (t19:yC) (t20 t21:Int)
theorem z1s (l:yA) (f:Fc) (o:yE) (hg:∀ b∈l,evG g b) (hl:l.length<=1000000) (ho:o.length+zeU l<=1000000) (n:Nat) (hn:l.length<n):
  zvZ g n t12 t13 t14 t19 t20 t21 l l.length 0 f o=(true,(t12,t13,t14,t19,t20,t21,f,o++zo8 l)):=by
 have hh:=zFq (W:=zkZ g) (z:=default) l (λi o=>(((),()),(),t12,t13,t14,t19,t20,t21,l,(l.length:Int),(i:Int),())) (λ_ o=>(((),()),f,o,())) (λo b=>o++zik b) (λo=>(t12,t13,t14,t19,t20,t21,f,o)) (λi o=>o.length+zeU (l.drop i)<=1000000)
  (λi o hi hI=>by
   have hb:=zX hi;rw [zbb hi,zeU] at hI;have e:=hg _ hb o (by omega)
   have hlen:=zoQ (l.getD i default);refine ⟨by rw [qg]; omega,λH K D=> ?_⟩
   show (zh3 g t12 t13 t14 t19 t20 t21 l l.length i f o).ev H K D=_;unfold zh3;simp only [Wy.ev_i,Wy.ev_k,Wy.ev_h,Wy.ev_bn,Wy.ev_d,tT,hi,e,cond_true,zbi (show i<4611686018427387904 by omega)])
  (λo hI H K D=>by
   show (zh3 g t12 t13 t14 t19 t20 t21 l l.length l.length f o).ev H K D=_;unfold zh3;simp only [Wy.ev_i,Wy.ev_k,tT,Nat.lt_irrefl]) n o hn (by simpa using ho)
 rw [zIH] at hh;exact hh
theorem z09 (l:yD) (o:yE) (hg:∀ w∈l,evG g w.Ann) (hl:l.length<=1000000) (ho:o.length+zcX l<=1000000) (n:Nat) (hn:l.length<n):
  zuM g n t12 t13 t14 t19 t20 t21 l l.length 0 o=(true,(t12,t13,t14,t19,t20,t21,o++zqi l)):=by
 have hh:=zFq (W:=zjV g) (z:=default) l (λi o=>(((),()),t12,t13,t14,t19,t20,t21,l,(l.length:Int),(i:Int),())) (λ_ o=>(((),()),o,())) (λo w=>o++zik w.Ann) (λo=>(t12,t13,t14,t19,t20,t21,o)) (λi o=>o.length+zcX (l.drop i)<=1000000)
  (λi o hi hI=>by
   have hb:=zX hi;have et:zcX (l.drop i)=(l.getD i default).Value.Text.size+zbM (l.getD i default).Ann+zcX (l.drop (i+1)):=by rw [zbb hi,zcX]
   have e:=hg _ hb o (by omega)
   have hlen:=zoQ (l.getD i default).Ann;refine ⟨by rw [qg]; omega,λH K D=> ?_⟩
   show (zhC g t12 t13 t14 t19 t20 t21 l l.length i o).ev H K D=_;unfold zhC;simp only [Wy.ev_i,Wy.ev_k,Wy.ev_h,Wy.ev_bn,Wy.ev_d,tT,hi,e,cond_true,zbi (show i<4611686018427387904 by omega)])
  (λo hI H K D=>by
   show (zhC g t12 t13 t14 t19 t20 t21 l l.length l.length o).ev H K D=_;unfold zhC;simp only [Wy.ev_i,Wy.ev_k,tT,Nat.lt_irrefl]) n o hn (by simpa using ho)
 rw [zGs] at hh;exact hh
def evX (x:At):Prop:=(x.Ag.length<=1000000/\x.Items.length<=1000000)/\(∀ b∈x.Ag,evG g b)/\∀ w∈x.Items,evG g w.Ann
theorem z1o (l:yC) (o:yE) (hg:∀ f∈l,evX g f.At) (hl:l.length<=1000000) (ho:o.length+l.length+zbS l<=1000000) (n:Nat) (hn:l.length<n):
  zvQ g n t12 t13 t14 l l.length 0 o=(true,(t12,t13,t14,o++zia l)):=by
 have hh:=zFq (W:=zkV g) (z:=default) l (λi o=>(((),()),t12,t13,t14,l,(l.length:Int),(i:Int),())) (λ_ o=>(((),()),o,())) (λo x=>o++zz4 x.At) (λo=>(t12,t13,t14,o)) (λi o=>o.length+(l.length - i)+zbS (l.drop i)<=1000000)
  (λi o hi hI=>by
   obtain ⟨⟨hA,hI'⟩,h1,h2⟩:=hg _ (zX hi);have et:zbS (l.drop i)=zqb (l.getD i default).At+zbS (l.drop (i+1)):=by rw [zbb hi,zbS]
   have ea:=zBS (l.getD i default).At;have hlen:=zIO (l.getD i default).At;have e1:=zYx (l.getD i default).At o (by omega)
   have e1':zg7 (At.mk (l.getD i default).At.Kind (l.getD i default).At.Row (l.getD i default).At.Ag (l.getD i default).At.Func (l.getD i default).At.Items (l.getD i default).At.Op (l.getD i default).At.Bd) o=_:=e1;have hk:(if (l.getD i default).At.Kind=0 then [(l.getD i default).At.Row] else []).length<=1:=by split <;>simp
   have hv:=zBN (l.getD i default).At.Ag;have e8:=λt f n hn=>z1s g t12 t13 t14 l t i (l.getD i default).At.Ag f (o++if (l.getD i default).At.Kind=0 then [(l.getD i default).At.Row] else []) h1 hA (by rw [qg]; omega) n hn
   have e13:=λt n hn=>z09 g t12 t13 t14 l t i (l.getD i default).At.Items ((o++if (l.getD i default).At.Kind=0 then [(l.getD i default).At.Row] else [])++zo8 (l.getD i default).At.Ag) h2 hI' (by rw [qg,qg]; omega) n hn
   refine ⟨by rw [qg]; omega,λH K D=> ?_⟩
   show (zh8 g t12 t13 t14 l l.length i o).ev H K D=_;unfold zh8;simp only [Wy.ev_i,Wy.ev_k,Wy.ev_h,Wy.ev_bn,Wy.ev_d,tT,hi,e1',cond_true];rw [e8 _ _ _ (by omega)]
   simp only [cond_true];rw [e13 _ _ (by omega)]
   simp only [cond_true,zbi (show i<4611686018427387904 by omega),zMN,List.append_assoc])
  (λo hI H K D=>by
   show (zh8 g t12 t13 t14 l l.length l.length o).ev H K D=_;unfold zh8;simp only [Wy.ev_i,Wy.ev_k,tT,Nat.lt_irrefl]) n o hn (by simpa using ho)
 rw [zA5] at hh;exact hh
theorem z1z (l:yB) (o:yE) (hg:∀ t∈l,t.Fs.length<=1000000/\∀ f∈t.Fs,evX g f.At) (hl:l.length<=1000000) (ho:o.length+zbM l<=1000000) (n:Nat) (hn:l.length<n):
  zvD g n l l.length 0 o=(true,o++zik l):=by
 have hh:=zFq (W:=zkX g) (z:=default) l (λi o=>(((),()),l,(l.length:Int),(i:Int),())) (λ_ o=>(((),()),o,())) (λo t=>o++zia t.Fs) (λo=>o) (λi o=>o.length+zbM (l.drop i)<=1000000)
  (λi o hi hI=>by
   obtain ⟨hF,hx⟩:=hg _ (zX hi);have et:zbM (l.drop i)=1+(l.getD i default).Fs.length+zbS (l.getD i default).Fs+zbM (l.drop (i+1)):=by rw [zbb hi,zbM]
   have hlen:=zvf (l.getD i default).Fs;have e4:=λt n hn=>z1o g l t i (l.getD i default).Fs o hx hF (by omega) n hn
   refine ⟨by rw [qg]; omega,λH K D=> ?_⟩
   show (zid g l l.length i o).ev H K D=_;unfold zid;simp only [Wy.ev_i,Wy.ev_k,Wy.ev_h,Wy.ev_bn,Wy.ev_d,tT,hi];rw [e4 _ _ (by omega)]
   simp only [cond_true,zbi (show i<4611686018427387904 by omega)])
  (λo hI H K D=>by
   show (zid g l l.length l.length o).ev H K D=_;unfold zid;simp only [Wy.ev_i,Wy.ev_k,tT,Nat.lt_irrefl]) n o hn (by simpa using ho)
 rw [zGl] at hh;exact hh
theorem z1t (a:yB) (hg:∀ t∈a,t.Fs.length<=1000000/\∀ f∈t.Fs,evX g f.At) (hl:a.length<=1000000):evG (zkd g) a:=λo ho=>by
 unfold zkd zq7;have e1:=λn hn=>z1z g a o hg hl ho n hn
 rw [Int.ofNat_eq_natCast,Wy.fin_bn,e1 _ (by omega)]; rfl
end
theorem zIy:∀ (d n:Nat) (a:yB),d<=n->zP d a->evG (zie n) a
 | 0,n,a,h,hf=>hf.elim
 | d+1,n,a,h,hf=>by
  obtain ⟨m,rfl⟩:∃ m,n=m+1:=⟨n - 1,by omega⟩
  rw [zGK];refine z1t _ a (λt ht=>⟨(hf.2 t ht).1,λf hf'=> ?_⟩) hf.1
  have hx:=(hf.2 t ht).2 f hf';exact ⟨⟨hx.1.1,hx.1.2.1⟩,λb hb=>zIy d m b (by omega) (hx.2.1 b hb),λw hw=>zIy d m w.Ann (by omega) (hx.2.2 w hw).2⟩
theorem zYY {d:Nat} {a:yB} (h:zP d a) (hd:d<=1000) (o:yE) (ho:o.length+zbM a<=1000000):zvy a o=(true,o++zik a):=zIy d 1000 a hd h o ho
end Go.Proofs.YtnolcogncjijpaaGreatDoor
/- Sets of row identifiers: by the program and by the reference. -/
set_option maxRecDepth 100000
namespace Go.Proofs.YtnolcogncjijpaaGreatDoor
open Go Go.Ab
def cI (a b:RowID):Int:=if a.Table<b.Table then -1 else if b.Table<a.Table then 1 else if a.Seq<b.Seq then -1 else if b.Seq<a.Seq then 1 else 0
theorem zi5:Ord3 cI where
 eq:=λx y=>by
  obtain ⟨a,b⟩:=x; obtain ⟨c,d⟩:=y;simp only [cI,RowID.mk.injEq]
  repeat' split
  all_goals omega
 swap:=λx y=>by
  simp only [cI]
  repeat' split
  all_goals omega
 trans:=λx y z=>by
  simp only [cI]
  repeat' split
  all_goals omega
theorem eqI' (a b:RowID):(a.Table==b.Table&&a.Seq==b.Seq)=decide (a=b):=by
 obtain ⟨p,q⟩:=a; obtain ⟨r,s⟩:=b;by_cases h1:p=r <;>by_cases h2:q=s <;>simp [h1,h2]
theorem eqI (a b:RowID):(a.Table==b.Table&&(a.Seq==b.Seq&&true))=decide (a=b):=by
 rw [Bool.and_true,eqI']
abbrev nI:yE->yE:=zIl cI
theorem zBA (a b:RowID):zet a b=(true,cI a b):=by
 unfold zet zDr;rw [Wy.fin_bn,zkx,cond_true,Wy.fin_bn,zkx,cond_true,Wy.fin_bn,zoo _ (by simp),cond_true,Wy.fin_k]
 congr 1;simp only [cI,zor,zdm]
 repeat' split
 all_goals first | rfl | omega
theorem zZ4 (x y:RowID):(if zdm x.Table y.Table=0 then zdm x.Seq y.Seq else zdm x.Table y.Table)=cI x y:=by
 unfold zdm cI;by_cases h1:x.Table<y.Table
 ·simp [h1]
 ·by_cases h2:y.Table<x.Table
  ·simp [h1,h2]
  ·simp [h1,h2]
theorem zRW (x y:RowID):zhS x y=(true,cI x y):=by rw [zxG,zZ4]
theorem z1i (n:Nat) (k:Int) (s2_0:Nat) (s2_1:Nat) (k2:Int) (s:yE):zdy (n+1) k s2_0 s2_1 k2 s=(zfD k s2_0 s2_1 k2 s).ev (λx y=>zdy n x.2.1 x.2.2.1.1 x.2.2.1.2 x.2.2.2.1 y.1) (λr=>(true,r)) (false,default):=rfl
theorem z05 (n:Nat) (k:Int) (s:yE):zcJ (n+1) k s=(zfA k s).ev (λx y=>zcJ n x.2.1 y.1) (λr=>(true,r)) (false,.inl default):=rfl
theorem z1D (s:yE):zcv s=bif decide (Int.ofNat s.length<(2:Int)) then (true,s) else bnd (zcJ (Int.toNat (1:Int)+s.length+(1000:Nat)) (1:Int) s) (λr2=>bif isL r2 then (true,List.take (getL r2).fst (getL r2).snd) else (true,getR r2)) (false,default):=rfl
theorem z1n (l:yE):znd l=bnd (zdr l) (λr2=>bnd (zco r2) (λr1=>bnd (zcv r1) (λr0=>(true,r0)) (false,default)) (false,default)) (false,default):=rfl
abbrev pI (x y:RowID):Bool:=decide (x=y)
theorem zJQ:∀ (n k k0 m k2:Nat) (s:yE) (x:RowID) (rest:yE),s.length<=1000000->k0+m=s.length->1<=k2->k2<=m->k<=k0+k2 - 1->s.drop (k0+k2 - 1)=x::rest->m<k2+n->
  ∃ (k':Nat) (s':yE),zdy n k k0 m k2 s=(true,((k':Int),s'))/\s'.length=s.length/\k'<=s.length/\s'.take k'=s.take k++zgU pI x rest
 | 0,k,k0,m,k2,s,x,rest,hs,hm,h1,h2,h3,hd,h4=>by omega
 | n+1,k,k0,m,k2,s,x,rest,hs,hm,h1,h2,h3,hd,h4=>by
  rw [z1i];unfold zfD;by_cases hk:k2<m
  ·have hk1:k2 - 1<m:=by omega
   have hkl:k<s.length:=by omega
   rw [zoV (by omega) (by omega)]
   simp only [Wy.ev_i,Wy.ev_k,Wy.ev_h,Wy.ev_bn,Wy.ev_d,Int.ofNat_eq_natCast,zmT,zf4,decide_true,decide_false,Bool.and_self,Bool.true_and,Bool.and_true,cond_true,cond_false,Int.toNat_natCast,eqI,eqI',Bool.not_true,Bool.not_false,bnd,hk,hk1,hkl];have e1:k0+k2 - 1<s.length:=by omega
   have e2:k0+k2<s.length:=by omega
   have e3:k0+(k2 - 1)=k0+k2 - 1:=by omega
   rw [zbb e1,show k0+k2 - 1+1=k0+k2 by omega] at hd
   obtain ⟨hx,hr⟩:=List.cons.inj hd;rw [e3,hx, <- hr,zbb e2];generalize hy:s.getD (k0+k2) default=y;by_cases hxy:y=x
   ·subst hxy;simp only [decide_true,Bool.not_true,cond_false,zgU,pI,cond_true];rw [zbi (by omega)]
    exact zJQ n k k0 m (k2+1) s y _ hs hm (by omega) (by omega) (by omega) (by rw [show k0+(k2+1) - 1=k0+k2 by omega,zbb e2,hy]) (by omega)
   ·simp only [hxy,decide_false,Bool.not_false,cond_true,zgU,pI,cond_false];rw [zbi (by omega),zbi (by omega)]
    obtain ⟨k',s',h5,h6,h7,h8⟩:=zJQ n (k+1) k0 m (k2+1) (s.set k y) y (s.drop (k0+k2+1)) (by simpa using hs) (by simpa using hm) (by omega) (by omega) (by omega)
     (by rw [show k0+(k2+1) - 1=k0+k2 by omega,zVp _ (by omega),zbb e2,hy]) (by omega)
    refine ⟨k',s',h5,by simpa using h6,by simpa using h7, ?_⟩
    rw [h8,zTe _ hkl]; simp
  ·simp only [Wy.ev_i,Wy.ev_k,Wy.ev_h,Wy.ev_bn,Wy.ev_d,Int.ofNat_eq_natCast,zmT,zf4,decide_true,decide_false,Bool.and_self,Bool.true_and,Bool.and_true,cond_true,cond_false,Int.toNat_natCast,eqI,eqI',Bool.not_true,Bool.not_false,bnd,hk];refine ⟨k,s,rfl,rfl,by omega, ?_⟩
   have:rest=[]:=by
    have h5:=congrArg List.length hd;simp at h5;exact List.eq_nil_of_length_eq_zero (by omega)
   rw [this]; simp [zgU]
theorem zO7:∀ (n k:Nat) (s:yE),s.length<=1000000->1<=k->k<=s.length->s.length<k+n->adj pI s=s.take k++zgU pI (s.getD (k - 1) default) (s.drop k)->
  ∃ r,zcJ n k s=(true,r)/\((∃ (m:Nat) (s':yE),r=.inl (m,s')/\s'.take m=adj pI s)\/(r=.inr s/\adj pI s=s))
 | 0,k,s,hs,h1,h2,h3,ha=>by omega
 | n+1,k,s,hs,h1,h2,h3,ha=>by
  rw [z05];unfold zfA;by_cases hk:k<s.length
  ·have hk1:k - 1<s.length:=by omega
   have hkl:k<=s.length:=by omega
   rw [zoV (by omega) (by omega)]
   simp only [Wy.ev_i,Wy.ev_k,Wy.ev_h,Wy.ev_bn,Wy.ev_d,Int.ofNat_eq_natCast,zmT,zr3,zf4,hk,hk1,hkl,Nat.le_refl,decide_true,Bool.and_self,cond_true,Int.toNat_natCast,eqI];rw [zbb hk] at ha;by_cases hxy:s.getD k default=s.getD (k - 1) default
   ·simp only [hxy,decide_true,cond_true]
    obtain ⟨k',s',h5,h6,h7,h8⟩:=zJQ (k+k+(s.length - k)+Int.toNat 1+s.length+1000) k k (s.length - k) 1 s (s.getD k default) (s.drop (k+1)) hs (by omega) (by omega) (by omega) (by omega)
     (by rw [show k+1 - 1=k by omega,zbb hk]) (by omega)
    rw [show (1:Int)=((1:Nat):Int) from rfl] at *
    rw [h5];have h7':k'<=s'.length:=by omega
    have e2:k'+(s'.length - k')<=s'.length:=by omega
    have e3:k'<=(List.take k' s'++List.replicate (s'.length - k') (RowID.mk 0 0)++List.drop (k'+(s'.length - k')) s').length:=by simp; omega
    simp only [Wy.ev_i,Wy.ev_k,Wy.ev_h,Wy.ev_bn,Wy.ev_d,bnd,Int.ofNat_eq_natCast,Int.toNat_natCast,zf4,zr3,h7',e2,e3,Nat.le_refl,decide_true,Bool.and_self,cond_true,Int.le_refl,Int.toNat_zero,Nat.sub_zero];refine ⟨_,rfl,.inl ⟨_,_,rfl, ?_⟩⟩;rw [zXm _ h7',h8,ha];simp only [zgU,pI,hxy,decide_true,cond_true]
   ·simp only [hxy,decide_false,cond_false];rw [zbi (by omega)]
    refine zO7 n (k+1) s hs (by omega) (by omega) (by omega) ?_
    rw [ha,zSz hk];simp only [zgU,pI,hxy,decide_false,cond_false,Nat.add_sub_cancel];simp
  ·simp only [Wy.ev_i,Wy.ev_k,Wy.ev_h,Wy.ev_bn,Wy.ev_d,Int.ofNat_eq_natCast,zmT,zf4,decide_true,decide_false,Bool.and_self,Bool.true_and,Bool.and_true,cond_true,cond_false,Int.toNat_natCast,eqI,eqI',Bool.not_true,Bool.not_false,bnd,hk];refine ⟨_,rfl,.inr ⟨rfl, ?_⟩⟩;rw [ha,zdA hk,List.take_of_length_le (by omega)]
   simp [zgU]
theorem zOi (s:yE) (hs:s.length<=1000000):zcv s=(true,adj pI s):=by
 rw [z1D];have h2:decide (Int.ofNat s.length<2)=decide (s.length<2):=by simp; omega
 rw [h2];by_cases h:s.length<2
 ·simp only [h,decide_true,cond_true]
  match s,h with
  | [],_=>rfl
  | [x],_=>rfl
  | _::_::_,h=>simp at h; omega
 ·simp only [h,decide_false,cond_false]
  have ha:adj pI s=s.take 1++zgU pI (s.getD (1 - 1) default) (s.drop 1):=by
   cases s with
   | nil=>simp at h
   | cons x r=>simp [adj]
  obtain ⟨r,h3,h4⟩:=zO7 (Int.toNat 1+s.length+1000) 1 s hs (by omega) (by omega) (by simp; omega) ha
  rw [show (1:Int)=((1:Nat):Int) from rfl] at *
  rw [h3];rcases h4 with ⟨m,s',rfl,h4⟩ | ⟨rfl,h4⟩
  ·simp only [bnd,cond_true,isL,getL]; rw [h4]
  ·simp only [bnd,cond_true,isL,getR,cond_false]; rw [h4]
theorem zKN (l:yE) (hl:l.length<=1000000):∃ ok:SortOK (λa b=>zet a b) l,zco l=(true,zgN (λa b=>zet a b) l):=by
 have ok:SortOK (λa b=>zet a b) l:=zYj zi5 (by omega) λx _ y _=>zBA x y
 refine ⟨ok, ?_⟩;unfold zco zDV;rw [decide_eq_true ok]
theorem zLq (l:yE) (hl:l.length<=1000000):znd l=(true,nI l):=by
 rw [z1n];unfold zdr;have e1:l.length*16<=zbO:=zYW (by omega) (by omega)
 obtain ⟨ok,h⟩:=zKN l hl;simp only [e1,decide_true,bnd,cond_true,h];rw [zOi _ (by rw [(zlV _ l).length_eq]; exact hl)]
 simp only [cond_true];rw [zX5 zi5 (λx y=>by simp) ok λx _ y _=>by rw [zBA]]
def zXl (x:RowID):yE->yE
 | []=>[x]
 | y::r=>if cI x y=0 then y::r else x::y::r
theorem zXJ (x y:RowID) (r:yE):zXl x (y::r)=if cI x y=0 then y::r else x::y::r:=rfl
theorem zTY (x:RowID):∀ l:yE,znX cI x l=l.takeWhile (λy=>decide (cI y x<0))++zXl x (l.dropWhile (λy=>decide (cI y x<0)))
 | []=>rfl
 | y::r=>by
  rw [List.takeWhile_cons,List.dropWhile_cons];unfold znX;by_cases h:cI y x<0
  ·have h0:¬ cI x y<0:=zi5.asymm h;have h1:¬ cI x y=0:=λe=>by have:=(zi5.swap y x).1 h; omega
   simp only [h,h0,h1,if_true,if_false,decide_true,List.cons_append];rw [zTY x r]
  ·simp only [h,if_false,decide_false,Bool.false_eq_true,List.nil_append,zXl];by_cases h2:cI x y=0
   ·have:¬ cI x y<0:=by omega
    simp [h2,this]
   ·have:cI x y<0:=Classical.byContradiction λh3=>h2 ((zi5.eq _ _).2 (zi5.conn h3 h))
    simp [h2,this]
theorem zQK (l:yE) (id:RowID) (hl:l.length<=1000000):zp0 l id=(true,znX cI id l):=by
 have hreach:zbO=70368744177664:=rfl;unfold zp0 zGH
 have hL:=zWq (W:=zwG) (z:=default) l (λx=>decide (cI x id<0)) (λk=>(l,(),(k:Int),())) (λ_=>(id,())) (λk=>(l,(k:Int),id))
  (λk hk H K D=>by
   show (zoy l k id).ev H K D=_;unfold zoy;simp only [Wy.ev_i,Wy.ev_k,Wy.ev_h,Wy.ev_bn,Wy.ev_d,Int.ofNat_eq_natCast,zmT,zf4,decide_true,decide_false,Bool.and_self,Bool.true_and,Bool.and_true,cond_true,cond_false,Int.toNat_natCast,eqI,eqI',Bool.not_true,Bool.not_false,bnd,hk,zRW];rw [zbi (by omega)])
  (λH K D=>by
   show (zoy l l.length id).ev H K D=_;unfold zoy;simp only [Wy.ev_i,Wy.ev_k,Int.ofNat_eq_natCast,zmT,zf4,decide_true,decide_false,Bool.and_self,Bool.true_and,Bool.and_true,cond_true,cond_false,Int.toNat_natCast,eqI,eqI',Bool.not_true,Bool.not_false,bnd,Nat.lt_irrefl]) (l.length+Int.toNat (0:Int)+(1:Nat)) (by omega)
 have hL:zFi (l.length+Int.toNat (0:Int)+(1:Nat)) l 0 id=_:=hL;rw [hL,zVX,zTY];have q1:=z0e l (λx=>decide (cI x id<0))
 have q2:=zVR (λx=>decide (cI x id<0)) l
 have q3:=zWd (λx=>decide (cI x id<0)) l
 generalize (l.takeWhile λx=>decide (cI x id<0)).length=k at q1 q2 q3 ⊢
 rw [<- q2, <- q3];have g2:decide ((0+(l.take k).length)*16<=zbO)=true:=by simp only [qe,List.length_take]; omega
 have gk':decide ((k:Int)<=Int.ofNat l.length)=true:=by simp only [qe,Int.ofNat_eq_natCast]; omega
 have gb:∀ x:RowID,decide (((l.take k).length+[x].length)*16<=zbO)=true:=λx=>by simp only [qe,List.length_take,List.length_singleton]; omega
 have gc:∀ (x:RowID) (m:Nat),decide (((l.take k++[x]).length+(l.drop m).length)*16<=zbO)=true:=λx m=>by simp only [qe,List.length_take,List.length_drop,qg,List.length_singleton]; omega
 have g1:(decide ((0:Int)<=(0:Int))&&decide ((0:Int)<=(k:Int))&&decide ((k:Int)<=Int.ofNat l.length))=true:=by simp only [qc,qe,Int.ofNat_eq_natCast]; omega
 have g3:(decide ((0:Int)<=(k:Int))&&decide ((k:Int)<=Int.ofNat l.length)&&decide (Int.ofNat l.length<=Int.ofNat l.length))=true:=by simp only [qc,qe,Int.ofNat_eq_natCast]; omega
 simp only [Wy.fin_i,Wy.fin_k,Wy.fin_bn,List.nil_append,Int.toNat_natCast,zZZ,zZv,g1,g2,g3,gb,gc,cond_true];by_cases hk:k<l.length
 ·have g4:decide ((k:Int)<Int.ofNat l.length)=true:=by simp [hk]
  have g5:(decide ((0:Int)<=(k:Int))&&decide ((k:Int)<Int.ofNat l.length))=true:=by rw [g4]; simp
  simp only [g4,g5,zf4,Bool.and_self,cond_true,eqI];rw [zbb hk,zXJ];by_cases e:l.getD k default=id
  ·have e2:cI id (l.getD k default)=0:=(zi5.eq _ _).2 e.symm;rw [decide_eq_true e,if_pos e2,cond_true, <- zbb hk,List.take_append_drop]
  ·have e2:¬ cI id (l.getD k default)=0:=λh=>e ((zi5.eq _ _).1 h).symm
   rw [decide_eq_false e,if_neg e2,cond_false];simp
 ·have g4:decide ((k:Int)<Int.ofNat l.length)=false:=by simp [hk]
  simp only [g4,zf4,Bool.true_and,gk',Int.le_refl,decide_true,Bool.and_self,gb,gc,cond_true,cond_false];rw [zdA hk];simp [zXl]
theorem zX3 (x:RowID) (l:yE):(znX cI x l).length<=l.length+1:=by
 induction l with
 | nil=>simp [znX]
 | cons y r ih=>
  unfold znX;split
  ·simp
  ·split
   ·simp
   ·simp only [qf]; omega
theorem zUQ (a b:yE) (ha:a.length<=400000) (hb:b.length<=400000):ztK a b=(true,b.foldl (λo x=>znX cI x o) a):=by
 unfold ztK zNr
 have h:=zFq (W:=zA3) (z:=default) b (λi st=>(st,b,(i:Int),())) (λ_ _=>()) (λo x=>znX cI x o) id (λi st=>st.length<=a.length+i)
  (λi st hi hI=>⟨by
   have:=zX3 (b.getD i default) st;omega,λH K D=>by
   show (zrE st b i).ev H K D=_;unfold zrE;simp only [Wy.ev_i,Wy.ev_k,Wy.ev_h,Wy.ev_bn,Wy.ev_d,Int.ofNat_eq_natCast,zmT,zf4,decide_true,decide_false,Bool.and_self,Bool.true_and,Bool.and_true,cond_true,cond_false,Int.toNat_natCast,eqI,eqI',Bool.not_true,Bool.not_false,bnd,hi,zQK st (b.getD i default) (by omega)]
   rw [zbi (by omega)]⟩)
  (λst hI H K D=>by
   show (zrE st b b.length).ev H K D=_;unfold zrE;simp only [Wy.ev_i,Wy.ev_k,Int.ofNat_eq_natCast,zmT,zf4,decide_true,decide_false,Bool.and_self,Bool.true_and,Bool.and_true,cond_true,cond_false,Int.toNat_natCast,eqI,eqI',Bool.not_true,Bool.not_false,bnd,Nat.lt_irrefl]; rfl) (a.length+b.length+Int.toNat (0:Int)+1) a (by omega) (by simp)
 have h:zJ1 (a.length+b.length+Int.toNat (0:Int)+1) a b 0=_:=h;rw [Wy.fin_bn,h]; rfl
end Go.Proofs.YtnolcogncjijpaaGreatDoor
end
