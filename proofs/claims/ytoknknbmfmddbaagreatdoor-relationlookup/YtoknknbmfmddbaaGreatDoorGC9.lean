/- Texts of this claim, joined (the program, its functions in plain words, and what they compute). -/
import Derived.Test.YtoknknbmfmddbaaGreatDoorGC8
set_option autoImplicit false
set_option linter.unusedVariables false
set_option linter.unusedSectionVars false
set_option linter.unusedSimpArgs false
set_option maxRecDepth 1000000
set_option maxHeartbeats 0
/- Copies are equal to what they are copied from; results within the limits. -/
noncomputable section
namespace Go.Proofs.YtoknknbmfmddbaaGreatDoor
open Go Go.Ab
section
variable (g:yB->Bool×yB)
end
def zKP (a:yB):yB×Int:=bif zrZ a then (a,0) else ([],6)
def ziD (x:At):yB:=[⟨1,[⟨x,1⟩]⟩]
theorem zSc {d:Nat} {x:At} (h:zgK (zK d) x):zK (d+1) (ziD x):=by
 refine ⟨by simp [ziD],λt ht=> ?_⟩
 simp only [ziD,qh] at ht;subst ht;refine ⟨by simp,λf hf=> ?_⟩
 simp only [qh] at hf;subst hf; exact h
theorem z2j (x:At):zW (ziD x)=2+zj5 x:=by
 rw [ziD,zla,zGn,zd4,zsB];simp only [List.length_singleton]; omega
section
variable {α β ρ τ:Type} [Inhabited τ]
theorem z3I (p:τ->Bool):∀ l:List τ,l.take (l.takeWhile p).length=l.takeWhile p
 | []=>rfl
 | x::r=>by
  rw [List.takeWhile_cons];cases p x with
  | true=>simp [z3I p r]
  | false=>simp
theorem z4e (p:τ->Bool):∀ l:List τ,l.drop (l.takeWhile p).length=l.dropWhile p
 | []=>rfl
 | x::r=>by
  rw [List.takeWhile_cons,List.dropWhile_cons];cases p x with
  | true=>simp [z4e p r]
  | false=>simp
theorem zZN {W:α->β->Wy α β ρ} {z:ρ} (l:List τ) (p:τ->Bool) (ex:Nat->α) (ey:Nat->β) (res:Nat->ρ)
  (h:∀ i,i<l.length->∀ (H:α->β->Bool×ρ) K D,(W (ex i) (ey i)).ev H K D=bif p (l.getD i default) then H (ex (i+1)) (ey (i+1)) else K (res i))
  (he:∀ (H:α->β->Bool×ρ) K D,(W (ex l.length) (ey l.length)).ev H K D=K (res l.length)):
  ∀ n i,l.length<i+n->i<=l.length->zD W z n (ex i) (ey i)=(true,res (i+((l.drop i).takeWhile p).length))
 | 0,i,h1,h2=>by omega
 | n+1,i,h1,h2=>by
  show (W (ex i) (ey i)).ev (zD W z n) (λr=>(true,r)) (false,z)=_
  by_cases hi:i<l.length
  ·rw [h i hi,z6 hi,List.takeWhile_cons];cases hp:p (l.getD i default) with
   | false=>simp
   | true=>
    rw [cond_true,zZN l p ex ey res h he n (i+1) (by omega) (by omega)]
    simp only [if_true,qf];congr 2; omega
  ·have:i=l.length:=by omega
   subst this;rw [he,zc9 hi]; rfl
theorem z4A {W:α->β->Wy α β ρ} {z:ρ} (l:List τ) (p:τ->Bool) (ex:Nat->α) (ey:Nat->β) (res:Nat->ρ)
  (h:∀ i,i<l.length->∀ (H:α->β->Bool×ρ) K D,(W (ex i) (ey i)).ev H K D=bif p (l.getD i default) then H (ex (i+1)) (ey (i+1)) else K (res i))
  (he:∀ (H:α->β->Bool×ρ) K D,(W (ex l.length) (ey l.length)).ev H K D=K (res l.length)) (n:Nat) (hn:l.length<n):
  zD W z n (ex 0) (ey 0)=(true,res (l.takeWhile p).length):=by
 have:=zZN (z:=z) l p ex ey res h he n 0 (by omega) (by omega)
 simpa using this
end
theorem z89 {τ:Type} (l:List τ) (k:Nat):List.take (k - Int.toNat 0) (List.drop (Int.toNat 0) l)=l.take k:=by simp
theorem z8o {τ:Type} (l:List τ) (k:Nat):List.take ((Int.ofNat l.length).toNat - k) (List.drop k l)=l.drop k:=by
 simp only [Int.ofNat_eq_natCast,Int.toNat_natCast];rw [List.take_of_length_le (by simp)]
def z1P (w:Wd):Bool:=decide (0<w.Ann.length)
def zlp (l:yD):yD:=zgz zbo (l.filter z1P)
def z5h (op sign:Int):Bool:=bif op==5 then sign==0 else bif op==6 then sign != 0 else bif op==7 then decide (sign<0) else bif op==8 then decide (sign<=0) else bif op==9 then decide (sign>0) else decide (sign≥0)
def zYz (fn:Int) (l:yD) (op:Int) (b:Value):At:=⟨4,⟨0,0⟩,[],fn,l,op,b⟩
def zXo (fn:Int) (items:yD) (op:Int) (b:Value):yB×Int:=
 bif !(zIa fn items op b&&items.all λw=>ze7 w.Ann) then ([],1) else
 bif decide (0<(zlp items).length) then zKP (ziD (zYz fn (zlp items) op b)) else
 bif fn==0&&z5h op (zdc 0 b.Int) then ([⟨1,[]⟩],0) else ([],0)
theorem zGf {l:yD} {w:Wd} (h:w∈zlp l):w∈l/\w.Ann≠[]:=by
 have:=(zis _ _).mem_iff.1 h;obtain ⟨h1,h2⟩:=List.mem_filter.1 this;refine ⟨h1,λe=> ?_⟩
 rw [z1P,e] at h2; simp at h2
theorem zXr (l:yD):(zlp l).length=(l.filter z1P).length:=(zis _ _).length_eq
theorem zSu {B:Nat}:∀ l:yD,(∀ w∈l,zW w.Ann<=B)->zdb l<=l.length*(B+1)
 | [],_=>by rw [zlX]; simp
 | w::r,h=>by
  rw [zio,qf];have h1:=h w (by simp)
  have h2:=zSu r λw hw=>h w (by simp [hw])
  rw [Nat.add_mul]; omega
theorem z61 {fn:Int} {l:yD} {op:Int} {b:Value} (hl:l.length<=1000000) (hf:zIa fn l op b=true) (hv:(l.all λw=>ze7 w.Ann)=true):zK 10 (ziD (zYz fn (zlp l) op b))/\zW (ziD (zYz fn (zlp l) op b))<=4611686018427387904:=by
 obtain ⟨_,hb,hit⟩:=zAk hf;have hvv:∀ w∈l,ze7 w.Ann=true:=λw hw=>List.all_eq_true.1 hv w hw
 have hlen:(zlp l).length<=1000000:=by rw [zXr]; exact Nat.le_trans (List.length_filter_le _ _) hl
 constructor
 ·refine zSc ⟨⟨by simp [zYz],hlen,by have:=zzN hb; simp only [zYz]; omega⟩,λy hy=>(by cases hy),λw hw=> ?_⟩
  have hm:=(zGf hw).1;exact ⟨by have:=zzN (hit w hm).1; omega,(zgH (hvv w hm)).1⟩
 ·rw [z2j,zli];have h1:zdb (zlp l)<=(zlp l).length*(4096+1):=zSu _ λw hw=>(zgH (hvv w (zGf hw).1)).2.1
  show 2+(zes []+zdb (zlp l))<=_;rw [zoa];have:=Nat.mul_le_mul hlen (Nat.le_refl (4096+1));omega
theorem z9A {τ:Type} (l:List τ) (p:τ->Bool):(l.takeWhile p).length<=l.length:=(List.takeWhile_prefix p).length_le
end Go.Proofs.YtoknknbmfmddbaaGreatDoor
/- The rows of annotations: what the program visits. -/
set_option maxRecDepth 100000
namespace Go.Proofs.YtoknknbmfmddbaaGreatDoor
open Go Go.Ab
section
variable {α β ρ τ σ:Type} [Inhabited τ]
theorem itF {W:α->β->Wy α β ρ} {z:ρ} (l:List τ) (ex:Nat->σ->α) (ey:Nat->σ->β) (f:σ->τ->σ) (res:σ->ρ) (I:Nat->σ->Prop)
  (h:∀ i s,i<l.length->I i s->I (i+1) (f s (l.getD i default))/\∀ (H:α->β->Bool×ρ) K D,(W (ex i s) (ey i s)).ev H K D=H (ex (i+1) (f s (l.getD i default))) (ey (i+1) (f s (l.getD i default))))
  (he:∀ s,I l.length s->∀ (H:α->β->Bool×ρ) K D,(W (ex l.length s) (ey l.length s)).ev H K D=K (res s)):∀ (n i:Nat) (s:σ),l.length<i+n->i<=l.length->I i s->zD W z n (ex i s) (ey i s)=(true,res ((l.drop i).foldl f s))
 | 0,i,s,h1,h2,hI=>by omega
 | n+1,i,s,h1,h2,hI=>by
  show (W (ex i s) (ey i s)).ev (zD W z n) (λr=>(true,r)) (false,z)=_
  by_cases hi:i<l.length
  ·obtain ⟨hI',e⟩:=h i s hi hI;rw [e,itF l ex ey f res I h he n (i+1) _ (by omega) (by omega) hI',z6 hi,List.foldl_cons]
  ·obtain rfl:i=l.length:=by omega
   rw [he s hI,List.drop_length]; rfl
theorem zED {W:α->β->Wy α β ρ} {z:ρ} (l:List τ) (ex:Nat->σ->α) (ey:Nat->σ->β) (f:σ->τ->σ) (res:σ->ρ) (I:Nat->σ->Prop)
  (h:∀ i s,i<l.length->I i s->I (i+1) (f s (l.getD i default))/\∀ (H:α->β->Bool×ρ) K D,(W (ex i s) (ey i s)).ev H K D=H (ex (i+1) (f s (l.getD i default))) (ey (i+1) (f s (l.getD i default))))
  (he:∀ s,I l.length s->∀ (H:α->β->Bool×ρ) K D,(W (ex l.length s) (ey l.length s)).ev H K D=K (res s)) (n:Nat) (s:σ) (hn:l.length<n) (h0:I 0 s):zD W z n (ex 0 s) (ey 0 s)=(true,res (l.foldl f s)):=by
 have:=itF (z:=z) l ex ey f res I h he n 0 s (by omega) (by omega) h0
 simpa using this
end
mutual
def zD0:At->yE
 | ⟨k,r,a,_,i,_,_⟩=>(if k=0 then [r] else [])++(zrb a++zr7 i)
def ziT:yC->yE
 | []=>[]
 | ⟨x,_⟩::r=>zD0 x++ziT r
def zfE:yB->yE
 | []=>[]
 | ⟨_,fs⟩::r=>ziT fs++zfE r
def zrb:yA->yE
 | []=>[]
 | a::r=>zfE a++zrb r
def zr7:yD->yE
 | []=>[]
 | ⟨_,a⟩::r=>zfE a++zr7 r
end
mutual
theorem zPm:∀ x:At,(zD0 x).length<=1+zqg x
 | ⟨k,r,a,f,i,o,b⟩=>by
  have h1:=zF0 a;have h2:=zVm i;rw [zD0,zqg,qg,qg];split <;>simp <;>omega
theorem zyw:∀ l:yC,(ziT l).length<=l.length+zbR l
 | []=>by rw [ziT]; simp
 | ⟨x,e⟩::r=>by
  have h1:=zPm x;have h2:=zyw r;rw [ziT,zbR,qg,qf];omega
theorem zlH:∀ a:yB,(zfE a).length<=zbq a
 | []=>by rw [zfE]; simp
 | ⟨c,fs⟩::r=>by
  have h1:=zyw fs;have h2:=zlH r;rw [zfE,zbq,qg];omega
theorem zF0:∀ l:yA,(zrb l).length<=zeS l
 | []=>by rw [zrb]; simp
 | a::r=>by
  have h1:=zlH a;have h2:=zF0 r;rw [zrb,zeS,qg];omega
theorem zVm:∀ l:yD,(zr7 l).length<=zcN l
 | []=>by rw [zr7]; simp
 | ⟨v,a⟩::r=>by
  have h1:=zlH a;have h2:=zVm r;rw [zr7,zcN,qg];omega
end
theorem zSM (x:At):zD0 x=(if x.Kind=0 then [x.Row] else [])++(zrb x.Ag++zr7 x.Items):=by cases x; rw [zD0]
theorem zOU:∀ (l:yA) (o:yE),l.foldl (λo b=>o++zfE b) o=o++zrb l
 | [],o=>by rw [zrb]; simp
 | a::r,o=>by rw [List.foldl_cons,zOU r,zrb,List.append_assoc]
theorem zLv:∀ (l:yD) (o:yE),l.foldl (λo w=>o++zfE w.Ann) o=o++zr7 l
 | [],o=>by rw [zr7]; simp
 | ⟨v,a⟩::r,o=>by rw [List.foldl_cons,zLv r,zr7,List.append_assoc]
theorem zFe:∀ (l:yC) (o:yE),l.foldl (λo x=>o++zD0 x.At) o=o++ziT l
 | [],o=>by rw [ziT]; simp
 | ⟨x,e⟩::r,o=>by rw [List.foldl_cons,zFe r,ziT,List.append_assoc]
theorem zKU:∀ (l:yB) (o:yE),l.foldl (λo t=>o++ziT t.Fs) o=o++zfE l
 | [],o=>by rw [zfE]; simp
 | ⟨c,fs⟩::r,o=>by rw [List.foldl_cons,zKU r,zfE,List.append_assoc]
theorem z7j (x:At) (o:yE) (ho:o.length<=1000000):zhH x o=(true,o++if x.Kind=0 then [x.Row] else []):=by
 have hreach:zbm=70368744177664:=rfl;unfold zhH znU;rw [Wy.fin_i,Wy.fin_i,Wy.fin_k,Wy.fin_k,List.length_singleton,decide_eq_true (by omega),cond_true]
 by_cases h:x.Kind=0
 ·rw [if_pos h,h]; rfl
 ·rw [if_neg h,List.append_nil,show (x.Kind==(0:Int))=false from beq_false_of_ne h]; rfl
section
variable (g:yB->yE->Bool×yE)
def evG (b:yB):Prop:=∀ o:yE,o.length+zbq b<=1000000->g b o=(true,o++zfE b)
variable (t12:yB) (t13 t14:Int) (t19:yC) (t20 t21:Int)
theorem zbbo (l:yA) (f:Fc) (o:yE) (hg:∀ b∈l,evG g b) (hl:l.length<=1000000) (ho:o.length+zeS l<=1000000) (n:Nat) (hn:l.length<n):
  zzI g n t12 t13 t14 t19 t20 t21 l l.length 0 f o=(true,(t12,t13,t14,t19,t20,t21,f,o++zrb l)):=by
 have hh:=zED (W:=zme g) (z:=default) l (λi o=>(((),()),(),t12,t13,t14,t19,t20,t21,l,(l.length:Int),(i:Int),())) (λ_ o=>(((),()),f,o,())) (λo b=>o++zfE b) (λo=>(t12,t13,t14,t19,t20,t21,f,o)) (λi o=>o.length+zeS (l.drop i)<=1000000)
  (λi o hi hI=>by
   have hb:=zT hi;rw [z6 hi,zeS] at hI;have e:=hg _ hb o (by omega)
   have hlen:=zlH (l.getD i default);refine ⟨by rw [qg]; omega,λH K D=> ?_⟩
   show (ziF g t12 t13 t14 t19 t20 t21 l l.length i f o).ev H K D=_;unfold ziF;simp only [Wy.ev_i,Wy.ev_k,Wy.ev_h,Wy.ev_bn,Wy.ev_d,tT,hi,e,cond_true,zbe (show i<4611686018427387904 by omega)])
  (λo hI H K D=>by
   show (ziF g t12 t13 t14 t19 t20 t21 l l.length l.length f o).ev H K D=_;unfold ziF;simp only [Wy.ev_i,Wy.ev_k,tT,Nat.lt_irrefl]) n o hn (by simpa using ho)
 rw [zOU] at hh;exact hh
theorem zba2 (l:yD) (o:yE) (hg:∀ w∈l,evG g w.Ann) (hl:l.length<=1000000) (ho:o.length+zcN l<=1000000) (n:Nat) (hn:l.length<n):
  zya g n t12 t13 t14 t19 t20 t21 l l.length 0 o=(true,(t12,t13,t14,t19,t20,t21,o++zr7 l)):=by
 have hh:=zED (W:=zld g) (z:=default) l (λi o=>(((),()),t12,t13,t14,t19,t20,t21,l,(l.length:Int),(i:Int),())) (λ_ o=>(((),()),o,())) (λo w=>o++zfE w.Ann) (λo=>(t12,t13,t14,t19,t20,t21,o)) (λi o=>o.length+zcN (l.drop i)<=1000000)
  (λi o hi hI=>by
   have hb:=zT hi;have et:zcN (l.drop i)=(l.getD i default).Value.Text.size+zbq (l.getD i default).Ann+zcN (l.drop (i+1)):=by rw [z6 hi,zcN]
   have e:=hg _ hb o (by omega)
   have hlen:=zlH (l.getD i default).Ann;refine ⟨by rw [qg]; omega,λH K D=> ?_⟩
   show (zie g t12 t13 t14 t19 t20 t21 l l.length i o).ev H K D=_;unfold zie;simp only [Wy.ev_i,Wy.ev_k,Wy.ev_h,Wy.ev_bn,Wy.ev_d,tT,hi,e,cond_true,zbe (show i<4611686018427387904 by omega)])
  (λo hI H K D=>by
   show (zie g t12 t13 t14 t19 t20 t21 l l.length l.length o).ev H K D=_;unfold zie;simp only [Wy.ev_i,Wy.ev_k,tT,Nat.lt_irrefl]) n o hn (by simpa using ho)
 rw [zLv] at hh;exact hh
def evX (x:At):Prop:=(x.Ag.length<=1000000/\x.Items.length<=1000000)/\(∀ b∈x.Ag,evG g b)/\∀ w∈x.Items,evG g w.Ann
theorem zbbw (l:yC) (o:yE) (hg:∀ f∈l,evX g f.At) (hl:l.length<=1000000) (ho:o.length+l.length+zbR l<=1000000) (n:Nat) (hn:l.length<n):
  zy8 g n t12 t13 t14 l l.length 0 o=(true,(t12,t13,t14,o++ziT l)):=by
 have hh:=zED (W:=zmG g) (z:=default) l (λi o=>(((),()),t12,t13,t14,l,(l.length:Int),(i:Int),())) (λ_ o=>(((),()),o,())) (λo x=>o++zD0 x.At) (λo=>(t12,t13,t14,o)) (λi o=>o.length+(l.length - i)+zbR (l.drop i)<=1000000)
  (λi o hi hI=>by
   obtain ⟨⟨hA,hI'⟩,h1,h2⟩:=hg _ (zT hi);have et:zbR (l.drop i)=zqg (l.getD i default).At+zbR (l.drop (i+1)):=by rw [z6 hi,zbR]
   have ea:=zA7 (l.getD i default).At;have hlen:=zPm (l.getD i default).At;have e1:=z7j (l.getD i default).At o (by omega)
   have e1':zhH (At.mk (l.getD i default).At.Kind (l.getD i default).At.Row (l.getD i default).At.Ag (l.getD i default).At.Func (l.getD i default).At.Items (l.getD i default).At.Op (l.getD i default).At.Bd) o=_:=e1;have hk:(if (l.getD i default).At.Kind=0 then [(l.getD i default).At.Row] else []).length<=1:=by split <;>simp
   have hv:=zF0 (l.getD i default).At.Ag;have e8:=λt f n hn=>zbbo g t12 t13 t14 l t i (l.getD i default).At.Ag f (o++if (l.getD i default).At.Kind=0 then [(l.getD i default).At.Row] else []) h1 hA (by rw [qg]; omega) n hn
   have e13:=λt n hn=>zba2 g t12 t13 t14 l t i (l.getD i default).At.Items ((o++if (l.getD i default).At.Kind=0 then [(l.getD i default).At.Row] else [])++zrb (l.getD i default).At.Ag) h2 hI' (by rw [qg,qg]; omega) n hn
   refine ⟨by rw [qg]; omega,λH K D=> ?_⟩
   show (ziZ g t12 t13 t14 l l.length i o).ev H K D=_;unfold ziZ;simp only [Wy.ev_i,Wy.ev_k,Wy.ev_h,Wy.ev_bn,Wy.ev_d,tT,hi,e1',cond_true];rw [e8 _ _ _ (by omega)]
   simp only [cond_true];rw [e13 _ _ (by omega)]
   simp only [cond_true,zbe (show i<4611686018427387904 by omega),zSM,List.append_assoc])
  (λo hI H K D=>by
   show (ziZ g t12 t13 t14 l l.length l.length o).ev H K D=_;unfold ziZ;simp only [Wy.ev_i,Wy.ev_k,tT,Nat.lt_irrefl]) n o hn (by simpa using ho)
 rw [zFe] at hh;exact hh
theorem zbbh (l:yB) (o:yE) (hg:∀ t∈l,t.Fs.length<=1000000/\∀ f∈t.Fs,evX g f.At) (hl:l.length<=1000000) (ho:o.length+zbq l<=1000000) (n:Nat) (hn:l.length<n):
  zzK g n l l.length 0 o=(true,o++zfE l):=by
 have hh:=zED (W:=zmm g) (z:=default) l (λi o=>(((),()),l,(l.length:Int),(i:Int),())) (λ_ o=>(((),()),o,())) (λo t=>o++ziT t.Fs) (λo=>o) (λi o=>o.length+zbq (l.drop i)<=1000000)
  (λi o hi hI=>by
   obtain ⟨hF,hx⟩:=hg _ (zT hi);have et:zbq (l.drop i)=1+(l.getD i default).Fs.length+zbR (l.getD i default).Fs+zbq (l.drop (i+1)):=by rw [z6 hi,zbq]
   have hlen:=zyw (l.getD i default).Fs;have e4:=λt n hn=>zbbw g l t i (l.getD i default).Fs o hx hF (by omega) n hn
   refine ⟨by rw [qg]; omega,λH K D=> ?_⟩
   show (ziL g l l.length i o).ev H K D=_;unfold ziL;simp only [Wy.ev_i,Wy.ev_k,Wy.ev_h,Wy.ev_bn,Wy.ev_d,tT,hi];rw [e4 _ _ (by omega)]
   simp only [cond_true,zbe (show i<4611686018427387904 by omega)])
  (λo hI H K D=>by
   show (ziL g l l.length l.length o).ev H K D=_;unfold ziL;simp only [Wy.ev_i,Wy.ev_k,tT,Nat.lt_irrefl]) n o hn (by simpa using ho)
 rw [zKU] at hh;exact hh
theorem zbbk (a:yB) (hg:∀ t∈a,t.Fs.length<=1000000/\∀ f∈t.Fs,evX g f.At) (hl:a.length<=1000000):evG (zlQ g) a:=λo ho=>by
 unfold zlQ ztR;have e1:=λn hn=>zbbh g a o hg hl ho n hn
 rw [Int.ofNat_eq_natCast,Wy.fin_bn,e1 _ (by omega)]; rfl
end
theorem zNQ:∀ (d n:Nat) (a:yB),d<=n->zK d a->evG (ziX n) a
 | 0,n,a,h,hf=>hf.elim
 | d+1,n,a,h,hf=>by
  obtain ⟨m,rfl⟩:∃ m,n=m+1:=⟨n - 1,by omega⟩
  rw [zNw];refine zbbk _ a (λt ht=>⟨(hf.2 t ht).1,λf hf'=> ?_⟩) hf.1
  have hx:=(hf.2 t ht).2 f hf';exact ⟨⟨hx.1.1,hx.1.2.1⟩,λb hb=>zNQ d m b (by omega) (hx.2.1 b hb),λw hw=>zNQ d m w.Ann (by omega) (hx.2.2 w hw).2⟩
theorem z7H {d:Nat} {a:yB} (h:zK d a) (hd:d<=1000) (o:yE) (ho:o.length+zbq a<=1000000):zyV a o=(true,o++zfE a):=zNQ d 1000 a hd h o ho
end Go.Proofs.YtoknknbmfmddbaaGreatDoor
/- Sets of row identifiers: by the program and by the reference. -/
set_option maxRecDepth 100000
namespace Go.Proofs.YtoknknbmfmddbaaGreatDoor
open Go Go.Ab
def cI (a b:RowID):Int:=if a.Table<b.Table then -1 else if b.Table<a.Table then 1 else if a.Seq<b.Seq then -1 else if b.Seq<a.Seq then 1 else 0
theorem zik:Ord3 cI where
 eq:=λx y=>by
  obtain ⟨a,b⟩:=x; obtain ⟨c,d⟩:=y;simp only [cI,RowID.mk.injEq]
  repeat' split
  all_goals omega
 swap:=λx y=>by
  simp only [cI]
  repeat' split
  all_goals omega
 trans:=λx y z=>by
  simp only [cI]
  repeat' split
  all_goals omega
theorem eqI' (a b:RowID):(a.Table==b.Table&&a.Seq==b.Seq)=decide (a=b):=by
 obtain ⟨p,q⟩:=a; obtain ⟨r,s⟩:=b;by_cases h1:p=r <;>by_cases h2:q=s <;>simp [h1,h2]
theorem eqI (a b:RowID):(a.Table==b.Table&&(a.Seq==b.Seq&&true))=decide (a=b):=by
 rw [Bool.and_true,eqI']
abbrev nI:yE->yE:=zGi cI
theorem zFs (a b:RowID):zeO a b=(true,cI a b):=by
 unfold zeO zIu;rw [Wy.fin_bn,zlF,cond_true,Wy.fin_bn,zlF,cond_true,Wy.fin_bn,zqn _ (by simp),cond_true,Wy.fin_k]
 congr 1;simp only [cI,zqf,zdc]
 repeat' split
 all_goals first | rfl | omega
theorem z8k (x y:RowID):(if zdc x.Table y.Table=0 then zdc x.Seq y.Seq else zdc x.Table y.Table)=cI x y:=by
 unfold zdc cI;by_cases h1:x.Table<y.Table
 ·simp [h1]
 ·by_cases h2:y.Table<x.Table
  ·simp [h1,h2]
  ·simp [h1,h2]
theorem zYD (x y:RowID):ziC x y=(true,cI x y):=by rw [zBO,z8k]
theorem zbaT (n:Nat) (k:Int) (s2_0:Nat) (s2_1:Nat) (k2:Int) (s:yE):zdP (n+1) k s2_0 s2_1 k2 s=(zf5 k s2_0 s2_1 k2 s).ev (λx y=>zdP n x.2.1 x.2.2.1.1 x.2.2.1.2 x.2.2.2.1 y.1) (λr=>(true,r)) (false,default):=rfl
theorem zba6 (n:Nat) (k:Int) (s:yE):zcW (n+1) k s=(zf6 k s).ev (λx y=>zcW n x.2.1 y.1) (λr=>(true,r)) (false,.inl default):=rfl
theorem zba7 (s:yE):zcE s=bif decide (Int.ofNat s.length<(2:Int)) then (true,s) else bnd (zcW (Int.toNat (1:Int)+s.length+(1000:Nat)) (1:Int) s) (λr2=>bif isL r2 then (true,List.take (getL r2).fst (getL r2).snd) else (true,getR r2)) (false,default):=rfl
theorem zbbm (l:yE):zkY l=bnd (zdE l) (λr2=>bnd (zcz r2) (λr1=>bnd (zcE r1) (λr0=>(true,r0)) (false,default)) (false,default)) (false,default):=rfl
abbrev pI (x y:RowID):Bool:=decide (x=y)
theorem zOV:∀ (n k k0 m k2:Nat) (s:yE) (x:RowID) (rest:yE),s.length<=1000000->k0+m=s.length->1<=k2->k2<=m->k<=k0+k2 - 1->s.drop (k0+k2 - 1)=x::rest->m<k2+n->
  ∃ (k':Nat) (s':yE),zdP n k k0 m k2 s=(true,((k':Int),s'))/\s'.length=s.length/\k'<=s.length/\s'.take k'=s.take k++zhe pI x rest
 | 0,k,k0,m,k2,s,x,rest,hs,hm,h1,h2,h3,hd,h4=>by omega
 | n+1,k,k0,m,k2,s,x,rest,hs,hm,h1,h2,h3,hd,h4=>by
  rw [zbaT];unfold zf5;by_cases hk:k2<m
  ·have hk1:k2 - 1<m:=by omega
   have hkl:k<s.length:=by omega
   rw [zzF (by omega) (by omega)]
   simp only [Wy.ev_i,Wy.ev_k,Wy.ev_h,Wy.ev_bn,Wy.ev_d,Int.ofNat_eq_natCast,zkH,zhm,decide_true,decide_false,Bool.and_self,Bool.true_and,Bool.and_true,cond_true,cond_false,Int.toNat_natCast,eqI,eqI',Bool.not_true,Bool.not_false,bnd,hk,hk1,hkl];have e1:k0+k2 - 1<s.length:=by omega
   have e2:k0+k2<s.length:=by omega
   have e3:k0+(k2 - 1)=k0+k2 - 1:=by omega
   rw [z6 e1,show k0+k2 - 1+1=k0+k2 by omega] at hd
   obtain ⟨hx,hr⟩:=List.cons.inj hd;rw [e3,hx, <- hr,z6 e2];generalize hy:s.getD (k0+k2) default=y;by_cases hxy:y=x
   ·subst hxy;simp only [decide_true,Bool.not_true,cond_false,zhe,pI,cond_true];rw [zbe (by omega)]
    exact zOV n k k0 m (k2+1) s y _ hs hm (by omega) (by omega) (by omega) (by rw [show k0+(k2+1) - 1=k0+k2 by omega,z6 e2,hy]) (by omega)
   ·simp only [hxy,decide_false,Bool.not_false,cond_true,zhe,pI,cond_false];rw [zbe (by omega),zbe (by omega)]
    obtain ⟨k',s',h5,h6,h7,h8⟩:=zOV n (k+1) k0 m (k2+1) (s.set k y) y (s.drop (k0+k2+1)) (by simpa using hs) (by simpa using hm) (by omega) (by omega) (by omega)
     (by rw [show k0+(k2+1) - 1=k0+k2 by omega,z3c _ (by omega),z6 e2,hy]) (by omega)
    refine ⟨k',s',h5,by simpa using h6,by simpa using h7, ?_⟩
    rw [h8,z0l _ hkl]; simp
  ·simp only [Wy.ev_i,Wy.ev_k,Wy.ev_h,Wy.ev_bn,Wy.ev_d,Int.ofNat_eq_natCast,zkH,zhm,decide_true,decide_false,Bool.and_self,Bool.true_and,Bool.and_true,cond_true,cond_false,Int.toNat_natCast,eqI,eqI',Bool.not_true,Bool.not_false,bnd,hk];refine ⟨k,s,rfl,rfl,by omega, ?_⟩
   have:rest=[]:=by
    have h5:=congrArg List.length hd;simp at h5;exact List.eq_nil_of_length_eq_zero (by omega)
   rw [this]; simp [zhe]
theorem zVe:∀ (n k:Nat) (s:yE),s.length<=1000000->1<=k->k<=s.length->s.length<k+n->adj pI s=s.take k++zhe pI (s.getD (k - 1) default) (s.drop k)->
  ∃ r,zcW n k s=(true,r)/\((∃ (m:Nat) (s':yE),r=.inl (m,s')/\s'.take m=adj pI s)\/(r=.inr s/\adj pI s=s))
 | 0,k,s,hs,h1,h2,h3,ha=>by omega
 | n+1,k,s,hs,h1,h2,h3,ha=>by
  rw [zba6];unfold zf6;by_cases hk:k<s.length
  ·have hk1:k - 1<s.length:=by omega
   have hkl:k<=s.length:=by omega
   rw [zzF (by omega) (by omega)]
   simp only [Wy.ev_i,Wy.ev_k,Wy.ev_h,Wy.ev_bn,Wy.ev_d,Int.ofNat_eq_natCast,zkH,zuC,zhm,hk,hk1,hkl,Nat.le_refl,decide_true,Bool.and_self,cond_true,Int.toNat_natCast,eqI];rw [z6 hk] at ha;by_cases hxy:s.getD k default=s.getD (k - 1) default
   ·simp only [hxy,decide_true,cond_true]
    obtain ⟨k',s',h5,h6,h7,h8⟩:=zOV (k+k+(s.length - k)+Int.toNat 1+s.length+1000) k k (s.length - k) 1 s (s.getD k default) (s.drop (k+1)) hs (by omega) (by omega) (by omega) (by omega)
     (by rw [show k+1 - 1=k by omega,z6 hk]) (by omega)
    rw [show (1:Int)=((1:Nat):Int) from rfl] at *
    rw [h5];have h7':k'<=s'.length:=by omega
    have e2:k'+(s'.length - k')<=s'.length:=by omega
    have e3:k'<=(List.take k' s'++List.replicate (s'.length - k') (RowID.mk 0 0)++List.drop (k'+(s'.length - k')) s').length:=by simp; omega
    simp only [Wy.ev_i,Wy.ev_k,Wy.ev_h,Wy.ev_bn,Wy.ev_d,bnd,Int.ofNat_eq_natCast,Int.toNat_natCast,zhm,zuC,h7',e2,e3,Nat.le_refl,decide_true,Bool.and_self,cond_true,Int.le_refl,Int.toNat_zero,Nat.sub_zero];refine ⟨_,rfl,.inl ⟨_,_,rfl, ?_⟩⟩;rw [z4R _ h7',h8,ha];simp only [zhe,pI,hxy,decide_true,cond_true]
   ·simp only [hxy,decide_false,cond_false];rw [zbe (by omega)]
    refine zVe n (k+1) s hs (by omega) (by omega) (by omega) ?_
    rw [ha,zMJ hk];simp only [zhe,pI,hxy,decide_false,cond_false,Nat.add_sub_cancel];simp
  ·simp only [Wy.ev_i,Wy.ev_k,Wy.ev_h,Wy.ev_bn,Wy.ev_d,Int.ofNat_eq_natCast,zkH,zhm,decide_true,decide_false,Bool.and_self,Bool.true_and,Bool.and_true,cond_true,cond_false,Int.toNat_natCast,eqI,eqI',Bool.not_true,Bool.not_false,bnd,hk];refine ⟨_,rfl,.inr ⟨rfl, ?_⟩⟩;rw [ha,zc9 hk,List.take_of_length_le (by omega)]
   simp [zhe]
theorem zUJ (s:yE) (hs:s.length<=1000000):zcE s=(true,adj pI s):=by
 rw [zba7];have h2:decide (Int.ofNat s.length<2)=decide (s.length<2):=by simp; omega
 rw [h2];by_cases h:s.length<2
 ·simp only [h,decide_true,cond_true]
  match s,h with
  | [],_=>rfl
  | [x],_=>rfl
  | _::_::_,h=>simp at h; omega
 ·simp only [h,decide_false,cond_false]
  have ha:adj pI s=s.take 1++zhe pI (s.getD (1 - 1) default) (s.drop 1):=by
   cases s with
   | nil=>simp at h
   | cons x r=>simp [adj]
  obtain ⟨r,h3,h4⟩:=zVe (Int.toNat 1+s.length+1000) 1 s hs (by omega) (by omega) (by simp; omega) ha
  rw [show (1:Int)=((1:Nat):Int) from rfl] at *
  rw [h3];rcases h4 with ⟨m,s',rfl,h4⟩ | ⟨rfl,h4⟩
  ·simp only [bnd,cond_true,isL,getL]; rw [h4]
  ·simp only [bnd,cond_true,isL,getR,cond_false]; rw [h4]
theorem zQA (l:yE) (hl:l.length<=1000000):∃ ok:SortOK (λa b=>zeO a b) l,zcz l=(true,zgz (λa b=>zeO a b) l):=by
 have ok:SortOK (λa b=>zeO a b) l:=z5D zik (by omega) λx _ y _=>zFs x y
 refine ⟨ok, ?_⟩;unfold zcz zIm;rw [decide_eq_true ok]
theorem zB8 (l:yE) (hl:l.length<=1000000):zkY l=(true,nI l):=by
 rw [zbbm];unfold zdE;have e1:l.length*16<=zbm:=zIk (by omega) (by omega)
 obtain ⟨ok,h⟩:=zQA l hl;simp only [e1,decide_true,bnd,cond_true,h];rw [zUJ _ (by rw [(zis _ l).length_eq]; exact hl)]
 simp only [cond_true];rw [z57 zik (λx y=>by simp) ok λx _ y _=>by rw [zFs]]
def z5o (x:RowID):yE->yE
 | []=>[x]
 | y::r=>if cI x y=0 then y::r else x::y::r
theorem z5y (x y:RowID) (r:yE):z5o x (y::r)=if cI x y=0 then y::r else x::y::r:=rfl
theorem z2G (x:RowID):∀ l:yE,zoS cI x l=l.takeWhile (λy=>decide (cI y x<0))++z5o x (l.dropWhile (λy=>decide (cI y x<0)))
 | []=>rfl
 | y::r=>by
  rw [List.takeWhile_cons,List.dropWhile_cons];unfold zoS;by_cases h:cI y x<0
  ·have h0:¬ cI x y<0:=zik.asymm h;have h1:¬ cI x y=0:=λe=>by have:=(zik.swap y x).1 h; omega
   simp only [h,h0,h1,if_true,if_false,decide_true,List.cons_append];rw [z2G x r]
  ·simp only [h,if_false,decide_false,Bool.false_eq_true,List.nil_append,z5o];by_cases h2:cI x y=0
   ·have:¬ cI x y<0:=by omega
    simp [h2,this]
   ·have:cI x y<0:=Classical.byContradiction λh3=>h2 ((zik.eq _ _).2 (zik.conn h3 h))
    simp [h2,this]
theorem zYl (l:yE) (id:RowID) (hl:l.length<=1000000):zsj l id=(true,zoS cI id l):=by
 have hreach:zbm=70368744177664:=rfl;unfold zsj zM6
 have hL:=z4A (W:=zAm) (z:=default) l (λx=>decide (cI x id<0)) (λk=>(l,(),(k:Int),())) (λ_=>(id,())) (λk=>(l,(k:Int),id))
  (λk hk H K D=>by
   show (zrc l k id).ev H K D=_;unfold zrc;simp only [Wy.ev_i,Wy.ev_k,Wy.ev_h,Wy.ev_bn,Wy.ev_d,Int.ofNat_eq_natCast,zkH,zhm,decide_true,decide_false,Bool.and_self,Bool.true_and,Bool.and_true,cond_true,cond_false,Int.toNat_natCast,eqI,eqI',Bool.not_true,Bool.not_false,bnd,hk,zYD];rw [zbe (by omega)])
  (λH K D=>by
   show (zrc l l.length id).ev H K D=_;unfold zrc;simp only [Wy.ev_i,Wy.ev_k,Int.ofNat_eq_natCast,zkH,zhm,decide_true,decide_false,Bool.and_self,Bool.true_and,Bool.and_true,cond_true,cond_false,Int.toNat_natCast,eqI,eqI',Bool.not_true,Bool.not_false,bnd,Nat.lt_irrefl]) (l.length+Int.toNat (0:Int)+(1:Nat)) (by omega)
 have hL:zJ8 (l.length+Int.toNat (0:Int)+(1:Nat)) l 0 id=_:=hL;rw [hL,z81,z2G];have q1:=z9A l (λx=>decide (cI x id<0))
 have q2:=z3I (λx=>decide (cI x id<0)) l
 have q3:=z4e (λx=>decide (cI x id<0)) l
 generalize (l.takeWhile λx=>decide (cI x id<0)).length=k at q1 q2 q3 ⊢
 rw [<- q2, <- q3];have g2:decide ((0+(l.take k).length)*16<=zbm)=true:=by simp only [qe,List.length_take]; omega
 have gk':decide ((k:Int)<=Int.ofNat l.length)=true:=by simp only [qe,Int.ofNat_eq_natCast]; omega
 have gb:∀ x:RowID,decide (((l.take k).length+[x].length)*16<=zbm)=true:=λx=>by simp only [qe,List.length_take,List.length_singleton]; omega
 have gc:∀ (x:RowID) (m:Nat),decide (((l.take k++[x]).length+(l.drop m).length)*16<=zbm)=true:=λx m=>by simp only [qe,List.length_take,List.length_drop,qg,List.length_singleton]; omega
 have g1:(decide ((0:Int)<=(0:Int))&&decide ((0:Int)<=(k:Int))&&decide ((k:Int)<=Int.ofNat l.length))=true:=by simp only [qc,qe,Int.ofNat_eq_natCast]; omega
 have g3:(decide ((0:Int)<=(k:Int))&&decide ((k:Int)<=Int.ofNat l.length)&&decide (Int.ofNat l.length<=Int.ofNat l.length))=true:=by simp only [qc,qe,Int.ofNat_eq_natCast]; omega
 simp only [Wy.fin_i,Wy.fin_k,Wy.fin_bn,List.nil_append,Int.toNat_natCast,z89,z8o,g1,g2,g3,gb,gc,cond_true];by_cases hk:k<l.length
 ·have g4:decide ((k:Int)<Int.ofNat l.length)=true:=by simp [hk]
  have g5:(decide ((0:Int)<=(k:Int))&&decide ((k:Int)<Int.ofNat l.length))=true:=by rw [g4]; simp
  simp only [g4,g5,zhm,Bool.and_self,cond_true,eqI];rw [z6 hk,z5y];by_cases e:l.getD k default=id
  ·have e2:cI id (l.getD k default)=0:=(zik.eq _ _).2 e.symm;rw [decide_eq_true e,if_pos e2,cond_true, <- z6 hk,List.take_append_drop]
  ·have e2:¬ cI id (l.getD k default)=0:=λh=>e ((zik.eq _ _).1 h).symm
   rw [decide_eq_false e,if_neg e2,cond_false];simp
 ·have g4:decide ((k:Int)<Int.ofNat l.length)=false:=by simp [hk]
  simp only [g4,zhm,Bool.true_and,gk',Int.le_refl,decide_true,Bool.and_self,gb,gc,cond_true,cond_false];rw [zc9 hk];simp [z5o]
theorem z6f (x:RowID) (l:yE):(zoS cI x l).length<=l.length+1:=by
 induction l with
 | nil=>simp [zoS]
 | cons y r ih=>
  unfold zoS;split
  ·simp
  ·split
   ·simp
   ·simp only [qf]; omega
theorem zV6 (a b:yE) (ha:a.length<=400000) (hb:b.length<=400000):ztt a b=(true,b.foldl (λo x=>zoS cI x o) a):=by
 unfold ztt zTh
 have h:=zED (W:=zFo) (z:=default) b (λi st=>(st,b,(i:Int),())) (λ_ _=>()) (λo x=>zoS cI x o) id (λi st=>st.length<=a.length+i)
  (λi st hi hI=>⟨by
   have:=z6f (b.getD i default) st;omega,λH K D=>by
   show (zuj st b i).ev H K D=_;unfold zuj;simp only [Wy.ev_i,Wy.ev_k,Wy.ev_h,Wy.ev_bn,Wy.ev_d,Int.ofNat_eq_natCast,zkH,zhm,decide_true,decide_false,Bool.and_self,Bool.true_and,Bool.and_true,cond_true,cond_false,Int.toNat_natCast,eqI,eqI',Bool.not_true,Bool.not_false,bnd,hi,zYl st (b.getD i default) (by omega)]
   rw [zbe (by omega)]⟩)
  (λst hI H K D=>by
   show (zuj st b b.length).ev H K D=_;unfold zuj;simp only [Wy.ev_i,Wy.ev_k,Int.ofNat_eq_natCast,zkH,zhm,decide_true,decide_false,Bool.and_self,Bool.true_and,Bool.and_true,cond_true,cond_false,Int.toNat_natCast,eqI,eqI',Bool.not_true,Bool.not_false,bnd,Nat.lt_irrefl]; rfl) (a.length+b.length+Int.toNat (0:Int)+1) a (by omega) (by simp)
 have h:zPW (a.length+b.length+Int.toNat (0:Int)+1) a b 0=_:=h;rw [Wy.fin_bn,h]; rfl
end Go.Proofs.YtoknknbmfmddbaaGreatDoor
end
