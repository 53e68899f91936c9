/- Texts of this claim, joined (the program, its functions in plain words, and what they compute). -/
import Derived.Test.YtoknknbmfmddbaaGreatDoorGC8
set_option autoImplicit false
set_option linter.unusedVariables false
set_option linter.unusedSectionVars false
set_option linter.unusedSimpArgs false
set_option maxRecDepth 1000000
set_option maxHeartbeats 0
/- Copies are equal to what they are copied from; results within the limits. -/
noncomputable section
namespace Go.Proofs.YtoknknbmfmddbaaGreatDoor
open Go Go.Ab
section
variable (g:yB->Bool×yB)
theorem zbib (l:yA) (hl:l.length<=1000000) (hg:∀ a∈l,g a=(true,a)) (n:Nat) (hn:l.length<n) (x0 x1 x2 x3:Int) (x4:yD) (x5 x6 x7:Int) (x8:ByteArray) (t0 t1 t2 t3 t4 t5 t6:Int) (t7:ByteArray):
  zws g n l.length 0 x0 x1 x2 x3 x4 x5 x6 x7 x8 t0 t1 t2 t3 t4 t5 t6 t7 l=(true,(x0,x1,x2,x3,x4,x5,x6,x7,x8,t0,t1,t2,t3,t4,t5,t6,t7,l)):=by
 have:=zcs (W:=zog g) (z:=default) l.length (λi=>((),(),(l.length:Int),(i:Int),())) (λ_=>((x0,x1,x2,(),x3,x4,x5,x6,x7,x8,()),(t0,t1,t2,(),t3,(),t4,t5,t6,t7,()),l,())) (λ_=>true) default (x0,x1,x2,x3,x4,x5,x6,x7,x8,t0,t1,t2,t3,t4,t5,t6,t7,l)
  (λi hi H K D=>by
   show (zgC g l.length i x0 x1 x2 x3 x4 x5 x6 x7 x8 t0 t1 t2 t3 t4 t5 t6 t7 l).ev H K D=_;unfold zgC;simp only [Wy.ev_i,Wy.ev_k,Wy.ev_h,Wy.ev_bn,Wy.ev_d,tT,hi,hg _ (zn hi)];rw [zw (by omega),z0k hi])
  (λH K D=>by
   show (zgC g l.length l.length x0 x1 x2 x3 x4 x5 x6 x7 x8 t0 t1 t2 t3 t4 t5 t6 t7 l).ev H K D=_;unfold zgC;simp only [Wy.ev_i,Wy.ev_k,tT,Nat.lt_irrefl]) n hn
 rw [show zdK (λ_=>true) l.length 0=true from zdY.2 λ_ _ _=>rfl] at this
 exact this
theorem zbii (l:yD) (hl:l.length<=1000000) (hg:∀ a∈l,g a.Ann=(true,a.Ann)) (n:Nat) (hn:l.length<n) (x0 x1 x2 x3 x4 x5 x6:Int) (x7:ByteArray) (t0 t1 t2 t3 t4 t5 t6:Int) (t7:ByteArray) (b2:yA):
  zww g n l.length 0 x0 x1 x2 x3 x4 x5 x6 x7 t0 t1 t2 t3 t4 t5 t6 t7 b2 l=(true,(x0,x1,x2,x3,x4,x5,x6,x7,t0,t1,t2,t3,t4,t5,t6,t7,b2,l)):=by
 have:=zcs (W:=zod g) (z:=default) l.length (λi=>((),(),(l.length:Int),(i:Int),())) (λ_=>((x0,x1,x2,(),x3,(),x4,x5,x6,x7,()),(t0,t1,t2,(),t3,(),t4,t5,t6,t7,()),b2,l,())) (λ_=>true) default (x0,x1,x2,x3,x4,x5,x6,x7,t0,t1,t2,t3,t4,t5,t6,t7,b2,l)
  (λi hi H K D=>by
   show (zgy g l.length i x0 x1 x2 x3 x4 x5 x6 x7 t0 t1 t2 t3 t4 t5 t6 t7 b2 l).ev H K D=_;unfold zgy;simp only [Wy.ev_i,Wy.ev_k,Wy.ev_h,Wy.ev_bn,Wy.ev_d,tT,hi,hg _ (zn hi)];have:l.set i (⟨(l.getD i default).Value,(l.getD i default).Ann⟩:Wd)=l:=z0k hi;rw [zw (by omega),this])
  (λH K D=>by
   show (zgy g l.length l.length x0 x1 x2 x3 x4 x5 x6 x7 t0 t1 t2 t3 t4 t5 t6 t7 b2 l).ev H K D=_;unfold zgy;simp only [Wy.ev_i,Wy.ev_k,tT,Nat.lt_irrefl]) n hn
 rw [show zdK (λ_=>true) l.length 0=true from zdY.2 λ_ _ _=>rfl] at this
 exact this
theorem z1r (x:At) (h1:x.Ag.length<=1000000) (h2:x.Items.length<=1000000) (hg:∀ a∈x.Ag,g a=(true,a)) (hgi:∀ w∈x.Items,g w.Ann=(true,w.Ann)):ziO g x=(true,x):=by
 have hreach:zA=70368744177664:=rfl;unfold ziO zya zdG zes
 have e1:∀ k:Nat,k<=1000->decide (x.Ag.length*k<=zA)=true:=λk hk=>by
  have:=Nat.mul_le_mul h1 hk;simp only [qe]; omega
 have e2:∀ k:Nat,k<=1000->decide (x.Items.length*k<=zA)=true:=λk hk=>by
  have:=Nat.mul_le_mul h2 hk;simp only [qe]; omega
 simp only [Wy.fin_bn,Wy.fin_k,e1 _ (by omega:24<=1000),e2 _ (by omega:56<=1000),Int.ofNat_eq_natCast,cond_true]
 rw [zbib g _ h1 hg _ (by omega)]
 simp only [cond_true,e2 _ (by omega:56<=1000)]
 rw [zbii g _ h2 hgi _ (by omega)]
 simp only [cond_true];cases x; rfl
theorem z9X (gx:At->Bool×At) (a:yB) (hl:a.length<=1000000) (hg:∀ t∈a,t.Fs.length<=1000000/\∀ f∈t.Fs,gx f.At=(true,f.At)):zlX gx a=(true,a):=by
 unfold zlX zCr;have:=zbiv gx a hl hg (a.length+(Int.ofNat a.length).toNat +Int.toNat (0:Int)+(0:Nat)+(1:Nat)) (by omega)
 rw [show Int.ofNat a.length=(a.length:Int) from rfl] at *
 rw [Wy.fin_bn,this]; rfl
end
theorem z1t:∀ n,
  (∀ d a,zp d a->2*d<=n->zmf n a=(true,a))/\
  (∀ d x,zc7 (zp d) x->2*d+1<=n->zlT n x=(true,x))
 | 0=>by
  refine ⟨λd a h hd=> ?_,λd x h hd=>by omega⟩
  have:d=0:=by omega
  subst this; exact h.elim
 | n+1=>by
  obtain ⟨h1,h2⟩:=z1t n;refine ⟨λd a h hd=> ?_,λd x h hd=> ?_⟩
  ·cases d with
   | zero=>exact h.elim
   | succ d=>
    rw [zNK];exact z9X _ a h.1 λt ht=>⟨(h.2 t ht).1,λf hf=>h2 d _ ((h.2 t ht).2 f hf) (by omega)⟩
  ·rw [zIk];exact z1r _ x h.1.1 h.1.2.1 (λa ha=>h1 d a (h.2.1 a ha) (by omega)) λw hw=>h1 d _ (h.2.2 w hw).2 (by omega)
theorem zGI {d:Nat} {a:yB} (h:zp d a) (hd:d<=100):zgT a=(true,a):=(z1t 1000).1 d a h (by omega)
def zmp (a:yB):yB×Int:=bif zfs a then (a,0) else ([],6)
theorem zzt {d:Nat} {a:yB} (h:zp d a) (hd:d<=100) (hs:zN a<=4611686018427387904):zek a=(true,zmp a):=by
 unfold zek zDH zmp;simp only [Wy.fin_bn,Wy.fin_i,Wy.fin_k,z5U h hd hs,zGI h hd,cond_true];cases zfs a <;>rfl
theorem zJM {d:Nat} {a:yB} (h:zp d a) (hd:d<=100) (hs:zN a<=4611686018427387904):zm5 a=(true,zmp a):=by
 unfold zm5 zZn zmp;simp only [Wy.fin_bn,Wy.fin_i,Wy.fin_k,zbao h hd hs,cond_true];cases zfs a <;>rfl
def zcT (x:At):yB:=[⟨1,[⟨x,1⟩]⟩]
theorem zGH (x:At):(zfp x).2=zcT x:=by
 unfold zfp zEZ;rw [At.eta]; rfl
theorem zOL (x:At):(zmD x).2=zcT x:=by
 unfold zmD zW9;rw [At.eta]; rfl
theorem zW6 {d:Nat} {x:At} (h:zc7 (zp d) x):zp (d+1) (zcT x):=by
 refine ⟨by simp [zcT],λt ht=> ?_⟩
 simp only [zcT,qh] at ht;subst ht;refine ⟨by simp,λf hf=> ?_⟩
 simp only [qh] at hf;subst hf; exact h
theorem z0x (x:At):zN (zcT x)=2+zfa x:=by
 rw [zcT,zfQ,zwf,zc2,ziD];simp only [List.length_singleton]; omega
abbrev zQm:=yD×Unit×Int×Int×Unit
abbrev zzz:=yD×Unit
abbrev z36:=yD×Int×Int×yD
abbrev zQr:=yD×Unit×Int×Unit
def zui (l:yD) (i:Int) (k:Int) (out_:yD):Wy zQm zzz z36:=.i (decide (k<Int.ofNat out_.length)) (.i (decide (0<=k)&&decide (k<=IntKind.i64.wrap (k+1))&&decide (IntKind.i64.wrap (k+1)<=Int.ofNat out_.length)) (.i (decide (0<=i)&&decide (i<=IntKind.i64.wrap (i+1))&&decide (IntKind.i64.wrap (i+1)<=Int.ofNat l.length)) (.bn (zs5 (List.take ((IntKind.i64.wrap (k+1)).toNat - k.toNat) (List.drop k.toNat out_)) (List.take ((IntKind.i64.wrap (i+1)).toNat - i.toNat) (List.drop i.toNat l))) λr0=>.i (decide (r0<=0)) (.h (l,(),i,(IntKind.i64.wrap (k+1)),()) (out_,())) (.k (l,i,k,out_))) .d) .d) (.k (l,i,k,out_))
def zOR (x:zQm) (y:zzz):=zui x.1 x.2.2.1 x.2.2.2.1 y.1
def zPI (n:Nat) (l:yD) (i:Int) (k:Int) (out_:yD):=zB (zOR) default n (l,(),i,k,()) (out_,())
def zuS (l:yD) (i:Int) (out_:yD):Wy zQr zzz (yD):=.i (decide (i<Int.ofNat l.length)) (.i (decide (0<=i)&&decide (i<Int.ofNat l.length)) (.i (Int.ofNat (l.getD i.toNat default).Ann.length==0) (.h (l,(),(IntKind.i64.wrap (i+1)),()) (out_,())) (.bn (zPI (l.length+i.toNat +Int.toNat 0+out_.length+1) l i 0 out_) λr2=>.i (decide ((0:Int)<=(0:Int))&&decide (0<=r2.2.2.1)&&decide (r2.2.2.1<=Int.ofNat r2.2.2.2.length)) (.i (decide ((0+(List.take (r2.2.2.1.toNat - Int.toNat 0) (List.drop (Int.toNat 0) r2.2.2.2)).length)*56<=zA)) (.i (decide (0<=r2.2.1)&&decide (r2.2.1<Int.ofNat r2.1.length)) (.i (decide ((([]++List.take (r2.2.2.1.toNat - Int.toNat 0) (List.drop (Int.toNat 0) r2.2.2.2)).length+[r2.1.getD r2.2.1.toNat default].length)*56<=zA)) (.i (decide (0<=r2.2.2.1)&&decide (r2.2.2.1<=Int.ofNat r2.2.2.2.length)&&decide (Int.ofNat r2.2.2.2.length<=Int.ofNat r2.2.2.2.length)) (.i (decide ((([]++List.take (r2.2.2.1.toNat - Int.toNat 0) (List.drop (Int.toNat 0) r2.2.2.2)++[r2.1.getD r2.2.1.toNat default]).length+(List.take ((Int.ofNat r2.2.2.2.length).toNat - r2.2.2.1.toNat) (List.drop r2.2.2.1.toNat r2.2.2.2)).length)*56<=zA)) (.h ((r2.1),(),(IntKind.i64.wrap (r2.2.1+1)),()) (([]++List.take (r2.2.2.1.toNat - Int.toNat 0) (List.drop (Int.toNat 0) r2.2.2.2)++[r2.1.getD r2.2.1.toNat default]++List.take ((Int.ofNat r2.2.2.2.length).toNat - r2.2.2.1.toNat) (List.drop r2.2.2.1.toNat r2.2.2.2)),())) .d) .d) .d) .d) .d) .d)) .d) (.k out_)
def zQx (x:zQr) (y:zzz):=zuS x.1 x.2.2.1 y.1
def zPd (n:Nat) (l:yD) (i:Int) (out_:yD):=zB (zQx) default n (l,(),i,()) (out_,())
def zS0 (l:yD):Wy0 (yD):=.bn (zPd (l.length+Int.toNat 0+0+1) l 0 []) λr4=>.k r4
def zNO (l:yD):=(zS0 l).fin default
def zMT (op:Int) (sign:Int):Wy0 (Bool):=.i (op==5) (.k (sign==0)) (.i (op==6) (.k (sign != 0)) (.i (op==7) (.k (decide (sign<0))) (.i (op==8) (.k (decide (sign<=0))) (.i (op==9) (.k (decide (sign>0))) (.i (op==10) (.k (decide (sign≥0))) (.k false))))))
def zIh (op:Int) (sign:Int):=(zMT op sign).fin default
abbrev zTb:=Int×yD×Int×Unit×Int×Unit
abbrev z6E:=Int⊕(Int×yD×Int×Value)
def zwS (fn:Int) (items:yD) (op:Int) (i:Int) (bound:Value):Wy zTb (Value×Unit) z6E:=.i (decide (i<Int.ofNat items.length)) (.i (decide (0<=i)&&decide (i<Int.ofNat items.length)) (.bn (zfK (items.getD i.toNat default).Ann) λr0=>.i (!r0) (.k (.inl 1)) (.h (fn,items,op,(),(IntKind.i64.wrap (i+1)),()) (bound,()))) .d) (.k (.inr (fn,items,op,bound)))
def zSR (x:zTb) (y:Value×Unit):=zwS x.1 x.2.1 x.2.2.1 x.2.2.2.2.1 y.1
def zS2 (n:Nat) (fn:Int) (items:yD) (op:Int) (i:Int) (bound:Value):=zB (zSR) (.inl default) n (fn,items,op,(),i,()) (bound,())
def zVG (fn:Int) (items:yD) (op:Int) (bound:Value):Wy0 (yB×Int):=.bn (zxi fn items op bound) λr7=>.i (!r7) (.k ([],1)) (.bn (zS2 (fn.toNat +items.length+op.toNat +Int.toNat 0+1) fn items op 0 bound) λr6=>.i (isL r6) (.k ([],getL r6)) (.bn (zNO (getR r6).2.1) λr5=>.i (Int.ofNat r5.length==0) (.i ((getR r6).1==0) (.bn (zcM 0 (getR r6).2.2.2.Int) λr3=>.bn (zIh (getR r6).2.2.1 r3) λr2=>.i (r2) (.k (zVo.2,0)) (.k ([],0))) (.k ([],0))) (.bn (zm5 (zmD (At.mk 4 (RowID.mk 0 0) [] (getR r6).1 r5 (getR r6).2.2.1 (getR r6).2.2.2)).2) λr4=>.k (r4.1,r4.2))))
def zRQ (fn:Int) (items:yD) (op:Int) (bound:Value):=(zVG fn items op bound).fin default
section
variable {α β ρ τ:Type} [Inhabited τ]
theorem zPR (p:τ->Bool):∀ l:List τ,l.take (l.takeWhile p).length=l.takeWhile p
 | []=>rfl
 | x::r=>by
  rw [List.takeWhile_cons];cases p x with
  | true=>simp [zPR p r]
  | false=>simp
theorem zPH (p:τ->Bool):∀ l:List τ,l.drop (l.takeWhile p).length=l.dropWhile p
 | []=>rfl
 | x::r=>by
  rw [List.takeWhile_cons,List.dropWhile_cons];cases p x with
  | true=>simp [zPH p r]
  | false=>simp
theorem zbeF (p:τ->Bool) (l:List τ):(l.takeWhile p).length<=l.length:=(List.takeWhile_prefix p).length_le
theorem z4U {W:α->β->Wy α β ρ} {z:ρ} (l:List τ) (p:τ->Bool) (ex:Nat->α) (ey:Nat->β) (res:Nat->ρ)
  (h:∀ i,i<l.length->∀ (H:α->β->Bool×ρ) K D,(W (ex i) (ey i)).ev H K D=bif p (l.getD i default) then H (ex (i+1)) (ey (i+1)) else K (res i))
  (he:∀ (H:α->β->Bool×ρ) K D,(W (ex l.length) (ey l.length)).ev H K D=K (res l.length)):
  ∀ n i,l.length<i+n->i<=l.length->zB W z n (ex i) (ey i)=(true,res (i+((l.drop i).takeWhile p).length))
 | 0,i,h1,h2=>by omega
 | n+1,i,h1,h2=>by
  show (W (ex i) (ey i)).ev (zB W z n) (λr=>(true,r)) (false,z)=_
  by_cases hi:i<l.length
  ·rw [h i hi,zbg hi,List.takeWhile_cons];cases hp:p (l.getD i default) with
   | false=>simp
   | true=>
    rw [cond_true,z4U l p ex ey res h he n (i+1) (by omega) (by omega)]
    simp only [if_true,qf];congr 2; omega
  ·have:i=l.length:=by omega
   subst this;rw [he,zco hi]; rfl
theorem zJp {W:α->β->Wy α β ρ} {z:ρ} (l:List τ) (p:τ->Bool) (ex:Nat->α) (ey:Nat->β) (res:Nat->ρ)
  (h:∀ i,i<l.length->∀ (H:α->β->Bool×ρ) K D,(W (ex i) (ey i)).ev H K D=bif p (l.getD i default) then H (ex (i+1)) (ey (i+1)) else K (res i))
  (he:∀ (H:α->β->Bool×ρ) K D,(W (ex l.length) (ey l.length)).ev H K D=K (res l.length)) (n:Nat) (hn:l.length<n):
  zB W z n (ex 0) (ey 0)=(true,res (l.takeWhile p).length):=by
 have:=z4U (z:=z) l p ex ey res h he n 0 (by omega) (by omega)
 simpa using this
def zRR (p:τ->Bool) (x:τ) (l:List τ):List τ:=l.takeWhile p++x::l.dropWhile p
theorem z5J (p:τ->Bool) (x y:τ) (r:List τ):zRR p x (y::r)=bif p y then y::zRR p x r else x::y::r:=by
 unfold zRR;rw [List.takeWhile_cons,List.dropWhile_cons];cases p y <;>simp
theorem zGN (p:τ->Bool) (x:τ):∀ l:List τ,(zRR p x l).Perm (x::l)
 | []=>.refl _
 | y::r=>by
  rw [z5J];cases p y
  ·exact .refl _
  ·exact ((zGN p x r).cons y).trans (.swap x y r)
abbrev Srt (key:τ->TT) (l:List τ):Prop:=l.Pairwise λx y=>zbb (key x) (key y)<=0
theorem z8z (key:τ->TT) (x:τ):∀ l:List τ,Srt key l->Srt key (zRR (λy=>decide (zbb (key y) (key x)<=0)) x l)
 | [],_=>by simp [zRR]
 | y::r,h=>by
  have h:=qi.1 h;rw [z5J];by_cases hp:zbb (key y) (key x)<=0
  ·rw [decide_eq_true hp];refine qi.2 ⟨λz hz=> ?_,z8z key x r h.2⟩
   rcases qd.1 ((zGN _ x r).mem_iff.1 hz) with rfl | hz
   ·exact hp
   ·exact h.1 z hz
  ·rw [decide_eq_false hp];have hxy:zbb (key x) (key y)<=0:=by have:=zfX (key x) (key y); omega
   refine qi.2 ⟨λz hz=> ?_,qi.2 h⟩
   rcases qd.1 hz with rfl | hz
   ·exact hxy
   ·exact zta _ _ _ hxy (h.1 z hz)
end
theorem zQv {τ:Type} (l:List τ) (k:Nat):List.take (k - Int.toNat 0) (List.drop (Int.toNat 0) l)=l.take k:=by simp
theorem zxc {τ:Type} (l:List τ) (k:Nat):List.take ((Int.ofNat l.length).toNat - k) (List.drop k l)=l.drop k:=by
 simp only [Int.ofNat_eq_natCast,Int.toNat_natCast];rw [List.take_of_length_le (by simp)]
theorem z8I (n:Nat):(n==0)= !decide (0<n):=by cases n <;>simp
def zmv (w:Wd):Bool:=decide (0<w.Ann.length)
def zdX (l:yD):yD:=znX z6 (l.filter zmv)
theorem zLj {d:Nat} {l:yD} (hl:l.length<=1000000) (h:∀ w∈l,zp d w.Ann) (hd:d<=99):SortOK z6 l:=by
 have e:∀ x∈l,∀ y,z6 x y=(true,zbb (zbc x) (zbc y)):=λx hx y=>zjG (h x hx) hd y
 refine ⟨by omega,λx hx y _=>by rw [e x hx],λx hx=> ?_,λx hx y hy z hz h1 h2=> ?_,λx hx y hy z hz h1 h2=> ?_,λx hx y hy h1 h2=> ?_⟩
 ·rw [e x hx,zCl]; omega
 ·rw [e x hx] at h1 ⊢; rw [e y hy] at h2;have h3:=zta _ _ _ (show zbb (zbc x) (zbc y)<=0 by simp only at h1; omega) (show zbb (zbc y) (zbc z)<=0 by simp only at h2; omega)
  simp only at h1 h2 ⊢;by_cases e0:zbb (zbc x) (zbc z)=0
  ·have:=zss _ _ e0;rw [<- this,zfX (zbc x) (zbc y)] at h2;omega
  ·omega
 ·rw [e x hx] at h1 ⊢; rw [e y hy] at h2;simp only at h1 h2 ⊢;have a1:=zfX (zbc x) (zbc y);have a2:=zfX (zbc y) (zbc z);have a3:=zfX (zbc x) (zbc z);have:=zta (zbc z) (zbc y) (zbc x) (by omega) (by omega)
  omega
 ·rw [e x hx] at h1; rw [e y hy] at h2;simp only at h1 h2;have a1:=zfX (zbc x) (zbc y);exact z2k _ _ (zss _ _ (by omega))
theorem zbfI {d:Nat} (l:yD) (hl:l.length<=1000000) (h:∀ w∈l,zp d w.Ann) (hd:d<=99) (n:Nat) (hn:l.length<n):zES n l l.length 0 []=(true,l.filter zmv):=by
 have hreach:zA=70368744177664:=rfl;have hfl:∀ i,(List.filter zmv (l.take i)).length<=1000000:=λi=>Nat.le_trans (List.length_filter_le _ _) (Nat.le_trans (by simp; omega) hl)
 have:=zcs (W:=zxu) (z:=default) l.length (λi=>((),l,(l.length:Int),(i:Int),())) (λi=>((l.take i).filter zmv,())) (λ_=>true) default (l.filter zmv)
  (λi hi H K D=>by
   show (zl9 l l.length i ((l.take i).filter zmv)).ev H K D=_;unfold zl9;have hb2:decide (((List.filter zmv (l.take i)).length+1)*56<=zA)=true:=by have:=hfl i; simp only [qe]; omega
   have hgt:decide (((l.getD i default).Ann.length:Int)>0)=zmv (l.getD i default):=zjp _ 0;simp only [Wy.ev_i,Wy.ev_k,Wy.ev_h,Wy.ev_bn,Wy.ev_d,tT,hi,zGI (h _ (zn hi)) (by omega:d<=100),hgt,List.length_singleton,hb2]
   rw [zw (by omega),zj7 hi,List.filter_append,List.filter_cons]
   cases zmv (l.getD i default) with
   | true=>simp
   | false=>simp)
  (λH K D=>by
   show (zl9 l l.length l.length ((l.take l.length).filter zmv)).ev H K D=_;unfold zl9;simp only [Wy.ev_i,Wy.ev_k,tT,Nat.lt_irrefl,List.take_length]) n hn
 rw [show zdK (λ_=>true) l.length 0=true from zdY.2 λ_ _ _=>rfl] at this
 exact this
theorem z8A {d:Nat} {l:yD} (h:∀ w∈l,zp d w.Ann) (hd:d<=99) (h20:l.length<20):z7 l=(true,znX z6 l):=by
 have ok:SortOK z6 l:=zLj (d:=d) (by omega) h hd
 unfold z7;simp only [decide_eq_true ok,decide_eq_true h20,Bool.and_self]
theorem zbdF {d:Nat} (l:yD) (hl:l.length<=1000000) (h:∀ w∈l,zp d w.Ann) (hd:d<=99) (h20:(l.filter zmv).length<20):zrg l=(true,zdX l):=by
 unfold zrg zGu zdX;have:=zbfI l hl h hd (l.length+(Int.ofNat l.length).toNat +Int.toNat (0:Int)+(0:Nat)+(1:Nat)) (by omega)
 rw [show Int.ofNat l.length=(l.length:Int) from rfl] at *
 rw [Wy.fin_bn,this];simp only [Wy.fin_bn,Wy.fin_k,cond_true,z8A (λw hw=>h w (List.mem_filter.1 hw).1) hd h20]
def zxY (w:Wd) (out:yD):yD:=bif zmv w then zRR (λy=>decide (zbb (zbc y) (zbc w)<=0)) w out else out
theorem zbea {d:Nat} (l:yD) (i:Nat) (hi:i<l.length) (hl:l.length<=1000000) (out:yD) (ho:out.length<=1000000) (h:∀ w∈out,zp d w.Ann) (hd:d<=99) (n:Nat) (hn:out.length<n):
  zPI n l i 0 out=(true,(l,(i:Int),(((out.takeWhile λy=>decide (zbb (zbc y) (zbc (l.getD i default))<=0)).length:Nat):Int),out)):=by
 exact zJp (W:=zOR) (z:=default) out (λy=>decide (zbb (zbc y) (zbc (l.getD i default))<=0)) (λk=>(l,(),(i:Int),(k:Int),())) (λ_=>(out,())) (λk=>(l,(i:Int),(k:Int),out))
  (λk hk H K D=>by
   show (zui l i k out).ev H K D=_;unfold zui;have e1:(decide ((k:Int)<=((k+1:Nat):Int))&&decide (((k+1:Nat):Int)<=Int.ofNat out.length))=true:=by simp; try omega
   have e2:(decide ((i:Int)<=((i+1:Nat):Int))&&decide (((i+1:Nat):Int)<=Int.ofNat l.length))=true:=by simp; try omega
   have e3:decide ((k:Int)<Int.ofNat out.length)=true:=by simp [hk]
   simp only [Wy.ev_i,Wy.ev_k,Wy.ev_h,Wy.ev_bn,Wy.ev_d,zw (show k<4611686018427387904 by omega),zw (show i<4611686018427387904 by omega),e1,e2,e3,zep,Bool.true_and,cond_true,Int.toNat_natCast,show k+1 - k=1 by omega,show i+1 - i=1 by omega,z7k _ _ hi,z7k _ _ hk]
   rw [zCx (d:=d) (by simp) (λw hw=>by
    rw [qh] at hw; subst hw; exact h _ (zn hk)) hd,zmF,zmF]
   simp only [List.map,zbeT,cond_true])
  (λH K D=>by
   show (zui l i out.length out).ev H K D=_;unfold zui;have e3:decide ((out.length:Int)<Int.ofNat out.length)=false:=by simp
   simp only [Wy.ev_i,Wy.ev_k,e3,cond_false]) n hn
theorem zbc1 (w:Wd) (out:yD):(zxY w out).length<=out.length+1:=by
 unfold zxY;cases zmv w with
 | false=>simp
 | true=>simp only [cond_true]; rw [(zGN _ w out).length_eq]; simp
theorem zbcT {w y:Wd} {out:yD} (h:y∈zxY w out):y=w\/y∈out:=by
 unfold zxY at h;cases hb:zmv w with
 | false=>rw [hb] at h; exact .inr h
 | true=>rw [hb] at h; exact qd.1 ((zGN _ w out).mem_iff.1 h)
theorem zbeB {d:Nat} (l:yD) (hl:l.length<=1000000) (h:∀ w∈l,zp d w.Ann) (hd:d<=99) (n:Nat) (hn:l.length<n):zPd n l 0 []=(true,l.foldl (λout w=>zxY w out) []):=by
 have hreach:zA=70368744177664:=rfl
 have:=zcy (W:=zQx) (z:=default) (l:=l) (λi (out:yD)=>(l,(),(i:Int),())) (λ_ out=>(out,())) (λw out=>.inl (zxY w out)) (λout=>out) (λi out=>out.length<=i/\∀ w∈out,zp d w.Ann)
  (λi out hi hI=>.inl ⟨_,rfl,⟨by have:=zbc1 (l.getD i default) out; omega,λw hw=>by
    rcases zbcT hw with rfl | hw
    ·exact h _ (zn hi)
    ·exact hI.2 w hw⟩,λH K D=>by
   show (zuS l i out).ev H K D=_;unfold zuS;have e0:((l.getD i default).Ann.length==0)= !zmv (l.getD i default):=z8I _;have e3:decide ((i:Int)<Int.ofNat l.length)=true:=by simp [hi]
   simp only [Wy.ev_i,Wy.ev_k,Wy.ev_h,Wy.ev_bn,Wy.ev_d,e3,zep,Bool.and_self,cond_true,Int.toNat_natCast,show (Int.ofNat (l.getD i default).Ann.length==(0:Int))=((l.getD i default).Ann.length==0) from zrq _ 0,e0]
   rw [zbea l i hi hl out (by omega) hI.2 hd _ (by omega)]
   simp only [cond_true,zQv,zxc,List.nil_append,Int.toNat_natCast,e3,zep,Bool.and_self,Int.le_refl,decide_true,Bool.true_and,Bool.and_true];have q1:=zbeF (λy=>decide (zbb (zbc y) (zbc (l.getD i default))<=0)) out
   have q2:decide (((out.takeWhile λy=>decide (zbb (zbc y) (zbc (l.getD i default))<=0)).length:Int)<=Int.ofNat out.length)=true:=by simp only [qe,Int.ofNat_eq_natCast]; omega
   have hb1:decide ((0+(out.take (out.takeWhile λy=>decide (zbb (zbc y) (zbc (l.getD i default))<=0)).length).length)*56<=zA)=true:=by simp only [qe,List.length_take]; omega
   have hb2:decide (((out.take (out.takeWhile λy=>decide (zbb (zbc y) (zbc (l.getD i default))<=0)).length).length+[l.getD i default].length)*56<=zA)=true:=by simp only [qe,List.length_take,List.length_singleton]; omega
   have hb3:decide (((out.take (out.takeWhile λy=>decide (zbb (zbc y) (zbc (l.getD i default))<=0)).length++[l.getD i default]).length+(out.drop (out.takeWhile λy=>decide (zbb (zbc y) (zbc (l.getD i default))<=0)).length).length)*56<=zA)=true:=by simp only [qe,qg,List.length_take,List.length_singleton,List.length_drop]; omega
   simp only [q2,hb1,hb2,hb3,cond_true];rw [zw (by omega),zPR,zPH]
   unfold zxY zRR;cases zmv (l.getD i default) <;>simp⟩)
  (λout hI H K D=>by
   show (zuS l l.length out).ev H K D=_;unfold zuS;have e3:decide ((l.length:Int)<Int.ofNat l.length)=false:=by simp
   simp only [Wy.ev_i,Wy.ev_k,e3,cond_false]) n 0 [] (by omega) (by omega) ⟨by simp,λw hw=>by cases hw⟩
 rw [List.drop_zero,zcz] at this;exact this
theorem z1Y:∀ (l out:yD),(l.foldl (λout w=>zxY w out) out).Perm (l.filter zmv++out)/\(Srt zbc out->Srt zbc (l.foldl (λout w=>zxY w out) out))
 | [],out=>⟨.refl _,λh=>h⟩
 | w::r,out=>by
  obtain ⟨h1,h2⟩:=z1Y r (zxY w out);rw [List.foldl_cons,List.filter_cons];cases hb:zmv w with
  | false=>
   have e:zxY w out=out:=by unfold zxY; rw [hb]; rfl
   rw [e] at h1 h2 ⊢;exact ⟨by simpa using h1,h2⟩
  | true=>
   have e:zxY w out=zRR (λy=>decide (zbb (zbc y) (zbc w)<=0)) w out:=by unfold zxY; rw [hb]; rfl
   rw [e] at h1 h2 ⊢;refine ⟨?_,λh=>h2 (z8z zbc w out h)⟩
   simp only [if_true,List.cons_append];exact h1.trans (((zGN _ w out).append_left _).trans List.perm_middle)
theorem zbcD {d:Nat} (l:yD) (hl:l.length<=1000000) (h:∀ w∈l,zp d w.Ann) (hd:d<=99):zNO l=(true,zdX l):=by
 unfold zNO zS0;rw [Wy.fin_bn,zbeB l hl h hd _ (by omega)]
 simp only [cond_true,Wy.fin_k];congr 1;obtain ⟨h1,h2⟩:=z1Y l [];rw [List.append_nil] at h1;have hm:∀ w∈l.filter zmv,zp d w.Ann:=λw hw=>h w (List.mem_filter.1 hw).1
 refine (zLj (d:=d) (Nat.le_trans (List.length_filter_le _ _) hl) hm hd).unique h1 ?_;refine (h2 .nil).imp_of_mem λ{x y} hx hy hxy=> ?_
 rw [zjG (hm y (h1.mem_iff.1 hy)) hd,zfX (zbc x) (zbc y)];simp only; omega
def zNv (op sign:Int):Bool:=bif op==5 then sign==0 else bif op==6 then sign != 0 else bif op==7 then decide (sign<0) else bif op==8 then decide (sign<=0) else bif op==9 then decide (sign>0) else decide (sign≥0)
theorem zbel (op sign:Int):zq7 op sign=(true,zNv op sign):=by
 unfold zq7 zGa zNv;simp only [Wy.fin_i,Wy.fin_k];cases op==5 <;>cases op==6 <;>cases op==7 <;>cases op==8 <;>cases op==9 <;>rfl
theorem zbca {op sign:Int} (h1:5<=op) (h2:op<=10):zIh op sign=(true,zNv op sign):=by
 unfold zIh zMT zNv;simp only [Wy.fin_i,Wy.fin_k,zf8];by_cases a1:op=5
 ·simp [a1]
 by_cases a2:op=6
 ·simp [a2]
 by_cases a3:op=7
 ·simp [a3]
 by_cases a4:op=8
 ·simp [a4]
 by_cases a5:op=9
 ·simp [a5]
 have a6:op=10:=by omega
 simp [a6]
def zNI (fn:Int) (l:yD) (op:Int) (b:Value):At:=⟨4,⟨0,0⟩,[],fn,l,op,b⟩
def zxU (fn:Int) (items:yD) (op:Int) (b:Value):yB×Int:=
 bif !(zz6 fn items op b&&items.all λw=>zU w.Ann) then ([],1) else
 bif decide (0<(zdX items).length) then zmp (zcT (zNI fn (zdX items) op b)) else
 bif fn==0&&zNv op (zd8 0 b.Int) then ([⟨1,[]⟩],0) else ([],0)
theorem zI4 {l:yD} {w:Wd} (h:w∈zdX l):w∈l/\w.Ann≠[]:=by
 have:=(zpo _ _).mem_iff.1 h;obtain ⟨h1,h2⟩:=List.mem_filter.1 this;refine ⟨h1,λe=> ?_⟩
 rw [zmv,e] at h2; simp at h2
theorem z23 (l:yD):(zdX l).length=(l.filter zmv).length:=(zpo _ _).length_eq
theorem zW8 {B:Nat}:∀ l:yD,(∀ w∈l,zN w.Ann<=B)->zc6 l<=l.length*(B+1)
 | [],_=>by rw [zfG]; simp
 | w::r,h=>by
  rw [zic,qf];have h1:=h w (by simp)
  have h2:=zW8 r λw hw=>h w (by simp [hw])
  rw [Nat.add_mul]; omega
theorem zKF {fn:Int} {l:yD} {op:Int} {b:Value} (hl:l.length<=1000000) (hf:zz6 fn l op b=true) (hv:(l.all λw=>zU w.Ann)=true):zp 10 (zcT (zNI fn (zdX l) op b))/\zN (zcT (zNI fn (zdX l) op b))<=4611686018427387904:=by
 obtain ⟨_,hb,hit⟩:=ztm hf;have hvv:∀ w∈l,zU w.Ann=true:=λw hw=>List.all_eq_true.1 hv w hw
 have hlen:(zdX l).length<=1000000:=by rw [z23]; exact Nat.le_trans (List.length_filter_le _ _) hl
 constructor
 ·refine zW6 ⟨⟨by simp [zNI],hlen,by have:=zvo hb; simp only [zNI]; omega⟩,λy hy=>(by cases hy),λw hw=> ?_⟩
  have hm:=(zI4 hw).1;exact ⟨by have:=zvo (hit w hm).1; omega,(ze0 (hvv w hm)).1⟩
 ·rw [z0x,zhb];have h1:zc6 (zdX l)<=(zdX l).length*(4096+1):=zW8 _ λw hw=>(ze0 (hvv w (zI4 hw).1)).2.1
  show 2+(ze5 []+zc6 (zdX l))<=_;rw [zgL];have:=Nat.mul_le_mul hlen (Nat.le_refl (4096+1));omega
theorem zbfs {d:Nat} (l:yD) (hl:l.length<=1000000) (h:∀ w∈l,zp d w.Ann/\zN w.Ann<=4611686018427387904) (hd:d<=99):zb8 l=(true, !l.all λw=>zU w.Ann):=by
 unfold zb8 zg2;have:zdf l=IG (λ(_:Unit) x=>znt x) (l.length+(Int.ofNat l.length).toNat +Int.toNat (0:Int)+(1:Nat)) () l:=rfl
 rw [zkD (P:=λw=> !zU w.Ann) (this.trans (zJB _ _ _ _ _ (by omega) (λx hx=>by
  unfold znt zEd;rw [Wy.fin_bn,z5C (h x hx).1 (by omega) (h x hx).2]; rfl) (by omega)))]
 simp [List.all_eq_not_any_not]
theorem zbf0 {d:Nat} (fn:Int) (l:yD) (op:Int) (b:Value) (hl:l.length<=1000000) (h:∀ w∈l,zp d w.Ann/\zN w.Ann<=4611686018427387904) (hd:d<=99) (h20:(l.filter zmv).length<20):
  zn9 fn l op b=(true,zxU fn l op b):=by
 unfold zn9 zIB zxU;have hI:=zbdF l hl (λw hw=>(h w hw).1) hd h20
 have hgt:decide (Int.ofNat (zdX l).length>0)=decide (0<(zdX l).length):=zjp _ 0;simp only [Wy.fin_bn,Wy.fin_i,Wy.fin_k,z2T fn l op b hl,zbfs l hl h hd,hI,cond_true,hgt];cases hf:zz6 fn l op b with
 | false=>rfl
 | true=>
  cases hv:l.all λw=>zU w.Ann with
  | false=>rfl
  | true=>
   simp only [Bool.not_true,cond_false,Bool.and_self];rw [zGH];have hx:(⟨4,⟨0,0⟩,[],fn,zdX l,op,b⟩:At)=zNI fn (zdX l) op b:=rfl;rw [hx,zzt (zKF hl hf hv).1 (by omega) (zKF hl hf hv).2]
   cases decide (0<(zdX l).length) with
   | true=>rfl
   | false=>
    simp only [cond_false,zv8,zbel,cond_true];cases fn==0 with
    | false=>rfl
    | true=>
     cases zNv op (zd8 0 b.Int) <;>rfl
theorem zbez {d:Nat} (fn:Int) (l:yD) (op:Int) (b:Value) (hl:l.length<=1000000) (h:∀ w∈l,zp d w.Ann/\zN w.Ann<=4611686018427387904) (hd:d<=99):
  zRQ fn l op b=(true,zxU fn l op b):=by
 unfold zRQ zVG zxU;have hI:=zbcD l hl (λw hw=>(h w hw).1) hd
 have hgt:decide (0<(zdX l).length)= !((zdX l).length==0):=by rw [z8I,Bool.not_not]
 have hL:zS2 (fn.toNat +l.length+op.toNat +Int.toNat (0:Int)+(1:Nat)) fn l op (0:Int) b=(true,bif l.all λw=>zU w.Ann then .inr (fn,l,op,b) else .inl 1):=by
  have:=zcs (W:=zSR) (z:=.inl default) l.length (λi=>(fn,l,op,(),(i:Int),())) (λ_=>(b,())) (λi=>(λw:Wd=>zU w.Ann) (l.getD i default)) (.inl 1) (.inr (fn,l,op,b))
   (λi hi H K D=>by
    show (zwS fn l op i b).ev H K D=_;unfold zwS;have hx:=h _ (zn hi);simp only [Wy.ev_i,Wy.ev_k,Wy.ev_h,Wy.ev_bn,Wy.ev_d,tT,hi,z2u hx.1 (by omega) hx.2]
    rw [zw (by omega)]
    cases zU (l.getD i default).Ann <;>rfl)
   (λH K D=>by
    show (zwS fn l op l.length b).ev H K D=_;unfold zwS;simp only [Wy.ev_i,Wy.ev_k,tT,Nat.lt_irrefl]) (fn.toNat +l.length+op.toNat +Int.toNat (0:Int)+(1:Nat)) (by omega)
  rw [zy8 (λw:Wd=>zU w.Ann)] at this
  exact this
 simp only [Wy.fin_bn,Wy.fin_i,Wy.fin_k,z8b fn l op b hl,hL,cond_true,hgt];cases hf:zz6 fn l op b with
 | false=>rfl
 | true=>
  cases hv:l.all λw=>zU w.Ann with
  | false=>rfl
  | true=>
   simp only [Bool.not_true,cond_false,cond_true,Bool.and_self,isL,getR,hI];rw [show (Int.ofNat (zdX l).length==(0:Int))=((zdX l).length==0) from zrq _ 0,zOL]
   have hx:(⟨4,⟨0,0⟩,[],fn,zdX l,op,b⟩:At)=zNI fn (zdX l) op b:=rfl;rw [hx,zJM (zKF hl hf hv).1 (by omega) (zKF hl hf hv).2]
   cases ((zdX l).length==0) with
   | false=>rfl
   | true=>
    obtain ⟨⟨_,_,o1,o2⟩,_⟩:=ztm hf;simp only [cond_false,Bool.not_true,znH,zbca o1 o2,cond_true];cases fn==0 with
    | false=>rfl
    | true=>
     cases zNv op (zd8 0 b.Int) <;>rfl
abbrev zNj:=yC×Unit×Int×Unit
abbrev z1a:=yC×Int×Fc
def ztj (l:yC) (i:Int) (f:Fc):Wy zNj (Fc×Unit) z1a:=.i (decide (i<Int.ofNat l.length)) (.i (decide (0<=i)&&decide (i<Int.ofNat l.length)) (.bn (zlw (At.mk (l.getD i.toNat default).At.Kind (l.getD i.toNat default).At.Row (l.getD i.toNat default).At.Ag (l.getD i.toNat default).At.Func (l.getD i.toNat default).At.Items (l.getD i.toNat default).At.Op (l.getD i.toNat default).At.Bd) (At.mk f.At.Kind f.At.Row f.At.Ag f.At.Func f.At.Items f.At.Op f.At.Bd)) λr0=>.i (decide (r0<0)) (.h (l,(),(IntKind.i64.wrap (i+1)),()) (f,())) (.k (l,i,f))) .d) (.k (l,i,f))
def zNe (x:zNj) (y:Fc×Unit):=ztj x.1 x.2.2.1 y.1
def zMY (n:Nat) (l:yC) (i:Int) (f:Fc):=zB (zNe) default n (l,(),i,()) (f,())
def zPf (l:yC) (f:Fc):Wy0 (yC):=.bn (zMY (l.length+Int.toNat 0+f.At.Ag.length+f.At.Items.length+1) l 0 (FO.mk (At.mk f.At.Kind f.At.Row f.At.Ag f.At.Func f.At.Items f.At.Op f.At.Bd) f.Exp)) λr3=>.i (decide ((0:Int)<=(0:Int))&&decide (0<=r3.2.1)&&decide (r3.2.1<=Int.ofNat r3.1.length)) (.i (decide ((0+(List.take (r3.2.1.toNat - Int.toNat 0) (List.drop (Int.toNat 0) r3.1)).length)*128<=zA)) (.i (decide (r3.2.1<Int.ofNat r3.1.length)) (.i (decide (0<=r3.2.1)&&decide (r3.2.1<Int.ofNat r3.1.length)) (.bn (zlw (At.mk (r3.1.getD r3.2.1.toNat default).At.Kind (r3.1.getD r3.2.1.toNat default).At.Row (r3.1.getD r3.2.1.toNat default).At.Ag (r3.1.getD r3.2.1.toNat default).At.Func (r3.1.getD r3.2.1.toNat default).At.Items (r3.1.getD r3.2.1.toNat default).At.Op (r3.1.getD r3.2.1.toNat default).At.Bd) (At.mk r3.2.2.At.Kind r3.2.2.At.Row r3.2.2.At.Ag r3.2.2.At.Func r3.2.2.At.Items r3.2.2.At.Op r3.2.2.At.Bd)) λr2=>.i (r2==0) (.i (decide (r3.2.2.At.Kind<3)) (.i (decide (0<=r3.2.1)&&decide (r3.2.1<Int.ofNat r3.1.length)) (.i (decide ((([]++List.take (r3.2.1.toNat - Int.toNat 0) (List.drop (Int.toNat 0) r3.1)).length+[FO.mk (At.mk r3.2.2.At.Kind r3.2.2.At.Row r3.2.2.At.Ag r3.2.2.At.Func r3.2.2.At.Items r3.2.2.At.Op r3.2.2.At.Bd) (IntKind.i64.wrap ((r3.1.getD r3.2.1.toNat default).Exp+r3.2.2.Exp))].length)*128<=zA)) (.i (decide (0<=IntKind.i64.wrap (r3.2.1+1))&&decide (IntKind.i64.wrap (r3.2.1+1)<=Int.ofNat r3.1.length)&&decide (Int.ofNat r3.1.length<=Int.ofNat r3.1.length)) (.i (decide ((([]++List.take (r3.2.1.toNat - Int.toNat 0) (List.drop (Int.toNat 0) r3.1)++[FO.mk (At.mk r3.2.2.At.Kind r3.2.2.At.Row r3.2.2.At.Ag r3.2.2.At.Func r3.2.2.At.Items r3.2.2.At.Op r3.2.2.At.Bd) (IntKind.i64.wrap ((r3.1.getD r3.2.1.toNat default).Exp+r3.2.2.Exp))]).length+(List.take ((Int.ofNat r3.1.length).toNat - (IntKind.i64.wrap (r3.2.1+1)).toNat) (List.drop (IntKind.i64.wrap (r3.2.1+1)).toNat r3.1)).length)*128<=zA)) (.k ([]++List.take (r3.2.1.toNat - Int.toNat 0) (List.drop (Int.toNat 0) r3.1)++[FO.mk (At.mk r3.2.2.At.Kind r3.2.2.At.Row r3.2.2.At.Ag r3.2.2.At.Func r3.2.2.At.Items r3.2.2.At.Op r3.2.2.At.Bd) (IntKind.i64.wrap ((r3.1.getD r3.2.1.toNat default).Exp+r3.2.2.Exp))]++List.take ((Int.ofNat r3.1.length).toNat - (IntKind.i64.wrap (r3.2.1+1)).toNat) (List.drop (IntKind.i64.wrap (r3.2.1+1)).toNat r3.1))) .d) .d) .d) .d) (.i (decide ((([]++List.take (r3.2.1.toNat - Int.toNat 0) (List.drop (Int.toNat 0) r3.1)).length+[FO.mk (At.mk r3.2.2.At.Kind r3.2.2.At.Row r3.2.2.At.Ag r3.2.2.At.Func r3.2.2.At.Items r3.2.2.At.Op r3.2.2.At.Bd) r3.2.2.Exp].length)*128<=zA)) (.i (decide (0<=IntKind.i64.wrap (r3.2.1+1))&&decide (IntKind.i64.wrap (r3.2.1+1)<=Int.ofNat r3.1.length)&&decide (Int.ofNat r3.1.length<=Int.ofNat r3.1.length)) (.i (decide ((([]++List.take (r3.2.1.toNat - Int.toNat 0) (List.drop (Int.toNat 0) r3.1)++[FO.mk (At.mk r3.2.2.At.Kind r3.2.2.At.Row r3.2.2.At.Ag r3.2.2.At.Func r3.2.2.At.Items r3.2.2.At.Op r3.2.2.At.Bd) r3.2.2.Exp]).length+(List.take ((Int.ofNat r3.1.length).toNat - (IntKind.i64.wrap (r3.2.1+1)).toNat) (List.drop (IntKind.i64.wrap (r3.2.1+1)).toNat r3.1)).length)*128<=zA)) (.k ([]++List.take (r3.2.1.toNat - Int.toNat 0) (List.drop (Int.toNat 0) r3.1)++[FO.mk (At.mk r3.2.2.At.Kind r3.2.2.At.Row r3.2.2.At.Ag r3.2.2.At.Func r3.2.2.At.Items r3.2.2.At.Op r3.2.2.At.Bd) r3.2.2.Exp]++List.take ((Int.ofNat r3.1.length).toNat - (IntKind.i64.wrap (r3.2.1+1)).toNat) (List.drop (IntKind.i64.wrap (r3.2.1+1)).toNat r3.1))) .d) .d) .d)) (.i (decide ((([]++List.take (r3.2.1.toNat - Int.toNat 0) (List.drop (Int.toNat 0) r3.1)).length+[FO.mk (At.mk r3.2.2.At.Kind r3.2.2.At.Row r3.2.2.At.Ag r3.2.2.At.Func r3.2.2.At.Items r3.2.2.At.Op r3.2.2.At.Bd) r3.2.2.Exp].length)*128<=zA)) (.i (decide (0<=r3.2.1)&&decide (r3.2.1<=Int.ofNat r3.1.length)&&decide (Int.ofNat r3.1.length<=Int.ofNat r3.1.length)) (.i (decide ((([]++List.take (r3.2.1.toNat - Int.toNat 0) (List.drop (Int.toNat 0) r3.1)++[FO.mk (At.mk r3.2.2.At.Kind r3.2.2.At.Row r3.2.2.At.Ag r3.2.2.At.Func r3.2.2.At.Items r3.2.2.At.Op r3.2.2.At.Bd) r3.2.2.Exp]).length+(List.take ((Int.ofNat r3.1.length).toNat - r3.2.1.toNat) (List.drop r3.2.1.toNat r3.1)).length)*128<=zA)) (.k ([]++List.take (r3.2.1.toNat - Int.toNat 0) (List.drop (Int.toNat 0) r3.1)++[FO.mk (At.mk r3.2.2.At.Kind r3.2.2.At.Row r3.2.2.At.Ag r3.2.2.At.Func r3.2.2.At.Items r3.2.2.At.Op r3.2.2.At.Bd) r3.2.2.Exp]++List.take ((Int.ofNat r3.1.length).toNat - r3.2.1.toNat) (List.drop r3.2.1.toNat r3.1))) .d) .d) .d)) .d) (.i (decide ((([]++List.take (r3.2.1.toNat - Int.toNat 0) (List.drop (Int.toNat 0) r3.1)).length+[FO.mk (At.mk r3.2.2.At.Kind r3.2.2.At.Row r3.2.2.At.Ag r3.2.2.At.Func r3.2.2.At.Items r3.2.2.At.Op r3.2.2.At.Bd) r3.2.2.Exp].length)*128<=zA)) (.i (decide (0<=r3.2.1)&&decide (r3.2.1<=Int.ofNat r3.1.length)&&decide (Int.ofNat r3.1.length<=Int.ofNat r3.1.length)) (.i (decide ((([]++List.take (r3.2.1.toNat - Int.toNat 0) (List.drop (Int.toNat 0) r3.1)++[FO.mk (At.mk r3.2.2.At.Kind r3.2.2.At.Row r3.2.2.At.Ag r3.2.2.At.Func r3.2.2.At.Items r3.2.2.At.Op r3.2.2.At.Bd) r3.2.2.Exp]).length+(List.take ((Int.ofNat r3.1.length).toNat - r3.2.1.toNat) (List.drop r3.2.1.toNat r3.1)).length)*128<=zA)) (.k ([]++List.take (r3.2.1.toNat - Int.toNat 0) (List.drop (Int.toNat 0) r3.1)++[FO.mk (At.mk r3.2.2.At.Kind r3.2.2.At.Row r3.2.2.At.Ag r3.2.2.At.Func r3.2.2.At.Items r3.2.2.At.Op r3.2.2.At.Bd) r3.2.2.Exp]++List.take ((Int.ofNat r3.1.length).toNat - r3.2.1.toNat) (List.drop r3.2.1.toNat r3.1))) .d) .d) .d)) .d) .d
def zKl (l:yC) (f:Fc):=(zPf l f).fin default
def zS6 (a:Int) (b:Int):Wy0 (Int):=.i (!decide (b=0)) (.i (decide (a>IntKind.i64.wrap (Int.tdiv 1152921504606846976 b))) (.k 1152921504606846976) (.k (IntKind.i64.wrap (a*b)))) .d
def zNC (a:Int) (b:Int):=(zS6 a b).fin default
abbrev zKB:=yB×yB×Unit×Int×Int×Unit×Int×Unit
abbrev zKW:=yB×(Int×yC×Unit)×Unit
abbrev z0L:=yB×yB×Int×Int×yB×Int×yC
abbrev zJU:=yB×yB×Unit×Int×Int×Unit
abbrev zv5:=yB×Unit
abbrev zZV:=yB×yB×Int×yB
abbrev zKP:=yB×yB×Unit×Int×Unit
def zoY (a:yB) (b:yB) (i:Int) (k:Int) (j:Int) (out_:yB) (t_0:Int) (t_1:yC):Wy zKB zKW z0L:=.i (decide (0<=k)&&decide (k<Int.ofNat b.length)) (.i (decide (j<Int.ofNat (b.getD k.toNat default).Fs.length)) (.i (decide (0<=k)&&decide (k<Int.ofNat b.length)) (.i (decide (0<=j)&&decide (j<Int.ofNat (b.getD k.toNat default).Fs.length)) (.bn (zKl t_1 (FO.mk (At.mk ((b.getD k.toNat default).Fs.getD j.toNat default).At.Kind ((b.getD k.toNat default).Fs.getD j.toNat default).At.Row ((b.getD k.toNat default).Fs.getD j.toNat default).At.Ag ((b.getD k.toNat default).Fs.getD j.toNat default).At.Func ((b.getD k.toNat default).Fs.getD j.toNat default).At.Items ((b.getD k.toNat default).Fs.getD j.toNat default).At.Op ((b.getD k.toNat default).Fs.getD j.toNat default).At.Bd) ((b.getD k.toNat default).Fs.getD j.toNat default).Exp)) λr0=>.h (a,b,(),i,k,(),(IntKind.i64.wrap (j+1)),()) (out_,(t_0,(r0),()),())) .d) .d) (.k (a,b,i,k,out_,t_0,t_1))) .d
def zIu (x:zKB) (y:zKW):=zoY x.1 x.2.1 x.2.2.2.1 x.2.2.2.2.1 x.2.2.2.2.2.2.1 y.1 y.2.1.1 y.2.1.2.1
def zIG (n:Nat) (a:yB) (b:yB) (i:Int) (k:Int) (j:Int) (out_:yB) (t_0:Int) (t_1:yC):=zB (zIu) default n (a,b,(),i,k,(),j,()) (out_,(t_0,t_1,()),())
def zqV (a:yB) (b:yB) (i:Int) (k:Int) (out_:yB):Wy zJU zv5 zZV:=.i (decide (k<Int.ofNat b.length)) (.i (decide (0<=i)&&decide (i<Int.ofNat a.length)) (.i (decide (0<=k)&&decide (k<Int.ofNat b.length)) (.bn (zNC (a.getD i.toNat default).Cf (b.getD k.toNat default).Cf) λr4=>.i (decide (0<=i)&&decide (i<Int.ofNat a.length)) (.bn (zIG ((a.length+b.length+i.toNat +k.toNat +Int.toNat 0+out_.length+r4.toNat +(a.getD i.toNat default).Fs.length+1)+zd5 a+zd5 b+zd5 out_+z7M (a.getD i.toNat default).Fs) a b i k 0 out_ r4 (a.getD i.toNat default).Fs) λr3=>.bn (zCa r3.2.2.2.2.1 (TO.mk r3.2.2.2.2.2.1 r3.2.2.2.2.2.2)) λr2=>.h ((r3.1),(r3.2.1),(),(r3.2.2.1),(IntKind.i64.wrap (r3.2.2.2.1+1)),()) ((r2),())) .d) .d) .d) (.k (a,b,i,out_))
def zJR (x:zJU) (y:zv5):=zqV x.1 x.2.1 x.2.2.2.1 x.2.2.2.2.1 y.1
def zJ1 (n:Nat) (a:yB) (b:yB) (i:Int) (k:Int) (out_:yB):=zB (zJR) default n (a,b,(),i,k,()) (out_,())
def zq9 (a:yB) (b:yB) (i:Int) (out_:yB):Wy zKP zv5 (yB):=.i (decide (i<Int.ofNat a.length)) (.bn (zJ1 ((a.length+b.length+i.toNat +Int.toNat 0+out_.length+1)+zd5 a+zd5 b+zd5 out_) a b i 0 out_) λr8=>.h ((r8.1),(r8.2.1),(),(IntKind.i64.wrap (r8.2.2.1+1)),()) ((r8.2.2.2),())) (.k out_)
def zLk (x:zKP) (y:zv5):=zq9 x.1 x.2.1 x.2.2.2.1 y.1
def zK0 (n:Nat) (a:yB) (b:yB) (i:Int) (out_:yB):=zB (zLk) default n (a,b,(),i,()) (out_,())
def zMP (a:yB) (b:yB):Wy0 (yB):=.bn (zK0 ((a.length+b.length+Int.toNat 0+0+1)+zd5 a+zd5 b+zd5 []) a b 0 []) λr10=>.k r10
def zHT (a:yB) (b:yB):=(zMP a b).fin default
def zY8 (a:yB) (b:yB):Wy0 (yB×Int):=.bn (zfK a) λr3=>.i (!r3) (.k ([],1)) (.bn (zfK b) λr2=>.i (!r2) (.k ([],1)) (.bn (zHT a b) λr1=>.bn (zm5 r1) λr0=>.k (r0.1,r0.2)))
def z5v (a:yB) (b:yB):=(zY8 a b).fin default
def zbb8 (t:Term):yB->yB
 | []=>[t]
 | x::r=>if cT x t=0 then ⟨zzl x.Cf t.Cf,t.Fs⟩::r else t::x::r
def zbcg (f:Fc):yC->yC
 | []=>[f]
 | x::r=>if cF x f=0 then (if f.At.Kind<3 then ⟨f.At,x.Exp+f.Exp⟩ else f)::r else f::x::r
theorem zbfa {t:Term} {l:yB} {k:Nat} (hk:k<l.length):zbb8 t (l.drop k)=if cT (l.getD k default) t=0 then ⟨zzl (l.getD k default).Cf t.Cf,t.Fs⟩::l.drop (k+1) else t::l.drop k:=by
 rw [zbg hk]; rfl
theorem zbfk {f:Fc} {l:yC} {k:Nat} (hk:k<l.length):zbcg f (l.drop k)=if cF (l.getD k default) f=0 then (if f.At.Kind<3 then ⟨f.At,(l.getD k default).Exp+f.Exp⟩ else f)::l.drop (k+1) else f::l.drop k:=by
 rw [zbg hk]; rfl
theorem zbal (t:Term):∀ l:yB,zi2 t l=l.takeWhile (λx=>decide (cT x t<0))++zbb8 t (l.dropWhile (λx=>decide (cT x t<0)))
 | []=>rfl
 | x::r=>by
  rw [List.takeWhile_cons,List.dropWhile_cons];unfold zi2;by_cases h:cT x t<0
  ·simp only [h,if_true,decide_true,List.cons_append];rw [zbal t r]
  ·simp only [h,if_false,decide_false,Bool.false_eq_true,List.nil_append]; rfl
theorem zbaN (f:Fc):∀ l:yC,zHE f l=l.takeWhile (λx=>decide (cF x f<0))++zbcg f (l.dropWhile (λx=>decide (cF x f<0)))
 | []=>rfl
 | x::r=>by
  rw [List.takeWhile_cons,List.dropWhile_cons];unfold zHE;by_cases h:cF x f<0
  ·simp only [h,if_true,decide_true,List.cons_append];rw [zbaN f r]
  ·simp only [h,if_false,decide_false,Bool.false_eq_true,List.nil_append]; rfl
theorem zbaV {a b:Int} (ha:0<=a/\a<=1152921504606846976) (hb:0<=b/\b<=1152921504606846976):IntKind.i64.wrap (a+b)=a+b:=zeH (by omega) (by omega)
theorem zbct {τ:Type} (l:List τ) (p:τ->Bool):(l.takeWhile p).length<=l.length:=(List.takeWhile_prefix p).length_le
theorem zbgz (z:Int):(z==0)=decide (z=0):=zf8 z 0
theorem zbat {d:Nat} (l:yB) (t:Term) (hl:l.length<=1000000) (h:∀ x∈l,zgJ (zp d) x.Fs) (hd:d<=99) (hc:∀ x∈l,cOK x) (ht:cOK t):zCa l t=(true,zi2 t l):=by
 have hreach:zA=70368744177664:=rfl;unfold zCa zZH
 have hL:=zJp (W:=zKq) (z:=default) l (λx=>decide (cT x t<0)) (λk=>(l,(),(k:Int),())) (λ_=>(t,())) (λk=>(l,(k:Int),t))
  (λk hk H K D=>by
   show (zyR l k t).ev H K D=_;unfold zyR;simp only [Wy.ev_i,Wy.ev_k,Wy.ev_h,Wy.ev_bn,Wy.ev_d,tT,hk,zrQ (h _ (zn hk)) hd];rw [zw (by omega)]; rfl)
  (λH K D=>by
   show (zyR l l.length t).ev H K D=_;unfold zyR;simp only [Wy.ev_i,Wy.ev_k,tT,Nat.lt_irrefl]) (l.length+Int.toNat (0:Int)+t.Fs.length+(1:Nat)) (by omega)
 have hL:zVH (l.length+Int.toNat (0:Int)+t.Fs.length+(1:Nat)) l 0 t=_:=hL;rw [hL,zXJ,zbal];have q1:=zbct l (λx=>decide (cT x t<0))
 have q2:=zPR (λx=>decide (cT x t<0)) l
 have q3:=zPH (λx=>decide (cT x t<0)) l
 generalize (l.takeWhile λx=>decide (cT x t<0)).length=k at q1 q2 q3 ⊢
 rw [<- q2, <- q3];have g1:(decide ((0:Int)<=(0:Int))&&decide ((0:Int)<=(k:Int))&&decide ((k:Int)<=Int.ofNat l.length))=true:=by simp only [qc,qe,Int.ofNat_eq_natCast]; omega
 have g2:decide ((0+(l.take k).length)*32<=zA)=true:=by simp only [qe,List.length_take]; omega
 have g4:∀ m:Nat,decide (((l.take k).length+[(⟨0,[]⟩:Term)].length)*32<=zA)=true:=λm=>by simp only [qe,List.length_take,List.length_singleton]; omega
 simp only [Wy.fin_i,Wy.fin_k,Wy.fin_bn,List.nil_append,Int.toNat_natCast,zQv,zxc,g1,g2,cond_true];by_cases hk:k<l.length
 ·have g3:decide ((k:Int)<Int.ofNat l.length)=true:=by simp [hk]
  have g5:(decide ((0:Int)<=(k:Int))&&decide ((k:Int)<Int.ofNat l.length))=true:=by rw [g3]; simp
  have hm:=zn hk;simp only [g3,zep,Bool.and_self,cond_true,zrQ (h _ hm) hd];rw [zbgz,zbfa hk];have gw:IntKind.i64.wrap ((k:Int)+1)=((k+1:Nat):Int):=zw (by omega)
  have gp:(zwe (l.getD k default).Cf t.Cf).2=zzl (l.getD k default).Cf t.Cf:=by
   unfold zwe zVO zzl;rw [Wy.fin_k,zbaV ⟨by have:=(hc _ hm).1; omega,(hc _ hm).2⟩ ⟨by have:=ht.1; omega,ht.2⟩]
  have gk:(decide ((0:Int)<=(k:Int))&&decide ((k:Int)<=Int.ofNat l.length)&&decide (Int.ofNat l.length<=Int.ofNat l.length))=true:=by simp only [qc,qe,Int.ofNat_eq_natCast]; omega
  have gk':decide ((k:Int)<=Int.ofNat l.length)=true:=by simp only [qe,Int.ofNat_eq_natCast]; omega
  have gk1':decide (((k+1:Nat):Int)<=Int.ofNat l.length)=true:=by simp only [qe,Int.ofNat_eq_natCast]; omega
  have gk1:(decide ((0:Int)<=((k+1:Nat):Int))&&decide (((k+1:Nat):Int)<=Int.ofNat l.length)&&decide (Int.ofNat l.length<=Int.ofNat l.length))=true:=by simp only [qc,qe,Int.ofNat_eq_natCast]; omega
  have gb:∀ x:Term,decide (((l.take k).length+[x].length)*32<=zA)=true:=λx=>by simp only [qe,List.length_take,List.length_singleton]; omega
  have gc:∀ (x:Term) (m:Nat),decide (((l.take k++[x]).length+(l.drop m).length)*32<=zA)=true:=λx m=>by simp only [qe,List.length_take,List.length_drop,qg,List.length_singleton]; omega
  by_cases hz:cT (l.getD k default) t=0
  ·have hz':zbr (zby (l.getD k default).Fs) (zby t.Fs)=0:=hz;simp only [hz,hz',if_true,decide_true,cond_true,gw,gp,zep,Bool.true_and,gk1',Int.le_refl,decide_true,cond_true,Bool.and_self,gb,gc,Int.toNat_natCast,zxc,List.append_assoc,List.singleton_append]
  ·have hz':¬ zbr (zby (l.getD k default).Fs) (zby t.Fs)=0:=hz;simp only [hz,hz',if_false,decide_false,cond_false,cond_true,zep,Bool.true_and,gk',Int.le_refl,decide_true,cond_true,Bool.and_self,gb,gc,List.append_assoc,List.singleton_append]
 ·have hk':k=l.length:=by omega
  have g3:decide ((k:Int)<Int.ofNat l.length)=false:=by simp [hk]
  have gk:(decide ((0:Int)<=(k:Int))&&decide ((k:Int)<=Int.ofNat l.length)&&decide (Int.ofNat l.length<=Int.ofNat l.length))=true:=by simp only [qc,qe,Int.ofNat_eq_natCast]; omega
  have gb:∀ x:Term,decide (((l.take k).length+[x].length)*32<=zA)=true:=λx=>by simp only [qe,List.length_take,List.length_singleton]; omega
  have gc:∀ (x:Term) (m:Nat),decide (((l.take k++[x]).length+(l.drop m).length)*32<=zA)=true:=λx m=>by simp only [qe,List.length_take,List.length_drop,qg,List.length_singleton]; omega
  have gk':decide ((k:Int)<=Int.ofNat l.length)=true:=by simp only [qe,Int.ofNat_eq_natCast]; omega
  simp only [g3,zep,Bool.true_and,gk',Int.le_refl,decide_true,Bool.and_self,gb,gc,cond_true,cond_false];rw [zco hk];simp [zbb8,zbcg]
theorem zbfW {d:Nat} (l:yC) (f:Fc) (hl:l.length<=1000000) (h:∀ x∈l,zc7 (zp d) x.At) (hd:d<=99) (hc:∀ x∈l,0<=x.Exp/\x.Exp<=1000000) (ht:0<=f.Exp/\f.Exp<=1000000):zKl l f=(true,zHE f l):=by
 have hreach:zA=70368744177664:=rfl;unfold zKl zPf
 have hL:=zJp (W:=zNe) (z:=default) l (λx=>decide (cF x f<0)) (λk=>(l,(),(k:Int),())) (λ_=>(f,())) (λk=>(l,(k:Int),f))
  (λk hk H K D=>by
   show (ztj l k f).ev H K D=_;unfold ztj;simp only [At.eta,Wy.ev_i,Wy.ev_k,Wy.ev_h,Wy.ev_bn,Wy.ev_d,tT,hk,zvD (h _ (zn hk)) hd];rw [zw (by omega)]; rfl)
  (λH K D=>by
   show (ztj l l.length f).ev H K D=_;unfold ztj;simp only [Wy.ev_i,Wy.ev_k,tT,Nat.lt_irrefl]) (l.length+Int.toNat (0:Int)+f.At.Ag.length+f.At.Items.length+(1:Nat)) (by omega)
 have hL:zMY (l.length+Int.toNat (0:Int)+f.At.Ag.length+f.At.Items.length+(1:Nat)) l 0 f=_:=hL;rw [At.eta,show (FO.mk f.At f.Exp:Fc)=f from rfl,hL,zXJ,zbaN]
 have q1:=zbct l (λx=>decide (cF x f<0))
 have q2:=zPR (λx=>decide (cF x f<0)) l
 have q3:=zPH (λx=>decide (cF x f<0)) l
 generalize (l.takeWhile λx=>decide (cF x f<0)).length=k at q1 q2 q3 ⊢
 rw [<- q2, <- q3];have g1:(decide ((0:Int)<=(0:Int))&&decide ((0:Int)<=(k:Int))&&decide ((k:Int)<=Int.ofNat l.length))=true:=by simp only [qc,qe,Int.ofNat_eq_natCast]; omega
 have g2:decide ((0+(l.take k).length)*128<=zA)=true:=by simp only [qe,List.length_take]; omega
 have gb:∀ x:Fc,decide (((l.take k).length+[x].length)*128<=zA)=true:=λx=>by simp only [qe,List.length_take,List.length_singleton]; omega
 have gc:∀ (x:Fc) (m:Nat),decide (((l.take k++[x]).length+(l.drop m).length)*128<=zA)=true:=λx m=>by simp only [qe,List.length_take,List.length_drop,qg,List.length_singleton]; omega
 have gk:(decide ((0:Int)<=(k:Int))&&decide ((k:Int)<=Int.ofNat l.length)&&decide (Int.ofNat l.length<=Int.ofNat l.length))=true:=by simp only [qc,qe,Int.ofNat_eq_natCast]; omega
 have ef:(FO.mk f.At f.Exp:Fc)=f:=rfl;simp only [At.eta,ef,Wy.fin_i,Wy.fin_k,Wy.fin_bn,List.nil_append,Int.toNat_natCast,zQv,zxc,g1,g2,cond_true];by_cases hk:k<l.length
 ·have g3:decide ((k:Int)<Int.ofNat l.length)=true:=by simp [hk]
  have g5:(decide ((0:Int)<=(k:Int))&&decide ((k:Int)<Int.ofNat l.length))=true:=by rw [g3]; simp
  have hm:=zn hk;simp only [g3,zep,Bool.and_self,cond_true,zvD (h _ hm) hd];rw [zbgz,zbfk hk];have gw:IntKind.i64.wrap ((k:Int)+1)=((k+1:Nat):Int):=zw (by omega)
  have gp:IntKind.i64.wrap ((l.getD k default).Exp+f.Exp)=(l.getD k default).Exp+f.Exp:=by have:=hc _ hm; exact zeH (by omega) (by omega)
  have gk':decide ((k:Int)<=Int.ofNat l.length)=true:=by simp only [qe,Int.ofNat_eq_natCast]; omega
  have gk1':decide (((k+1:Nat):Int)<=Int.ofNat l.length)=true:=by simp only [qe,Int.ofNat_eq_natCast]; omega
  have gk1:(decide ((0:Int)<=((k+1:Nat):Int))&&decide (((k+1:Nat):Int)<=Int.ofNat l.length)&&decide (Int.ofNat l.length<=Int.ofNat l.length))=true:=by simp only [qc,qe,Int.ofNat_eq_natCast]; omega
  by_cases hz:cF (l.getD k default) f=0
  ·have hz':zbb (zdO (l.getD k default).At) (zdO f.At)=0:=hz;by_cases hk3:f.At.Kind<3
   ·simp only [hz,hz',hk3,if_true,decide_true,cond_true,gw,gp,zep,Bool.true_and,gk1',Int.le_refl,decide_true,cond_true,Bool.and_self,gb,gc,Int.toNat_natCast,zxc,List.append_assoc,List.singleton_append]
   ·simp only [hz,hz',hk3,if_true,if_false,decide_true,decide_false,cond_true,cond_false,gw,gp,zep,Bool.true_and,gk1',Int.le_refl,decide_true,cond_true,Bool.and_self,gb,gc,Int.toNat_natCast,zxc,List.append_assoc,List.singleton_append]
  ·have hz':¬ zbb (zdO (l.getD k default).At) (zdO f.At)=0:=hz;simp only [hz,hz',if_false,decide_false,cond_false,cond_true,zep,Bool.true_and,gk',Int.le_refl,decide_true,cond_true,Bool.and_self,gb,gc,List.append_assoc,List.singleton_append]
 ·have g3:decide ((k:Int)<Int.ofNat l.length)=false:=by simp [hk]
  have gk':decide ((k:Int)<=Int.ofNat l.length)=true:=by simp only [qe,Int.ofNat_eq_natCast]; omega
  simp only [g3,zep,Bool.true_and,gk',Int.le_refl,decide_true,Bool.and_self,gb,gc,cond_true,cond_false];rw [zco hk];simp [zbb8,zbcg]
theorem zbho (n:Nat) (h:n<=4000000):zdN (n:Int)=(true,[]):=by
 have hreach:zA=70368744177664:=rfl;unfold zdN zmz;have e0:IntKind.i64.wrap ((0:Int) - 0)=0:=rfl;have e1:IntKind.i64.wrap ((n:Int) - 0)=(n:Int):=by rw [zeH (by omega) (by omega)]; omega
 have e2:decide ((n:Int)<0)=false:=decide_eq_false (by omega)
 rw [Wy.fin_i,e2,cond_false,e0,e1];by_cases hn:(n:Int)>0
 ·have e3:(true&&(decide ((n:Int)*Int.ofNat (32:Nat)<=Int.ofNat zA)&&(decide ((n:Int)<=Int.ofNat zA)&& !Nat.beq (2:Nat) (0:Nat))))=true:=by
   simp only [qc,qe,Int.ofNat_eq_natCast];exact ⟨trivial,by rw [hreach]; omega,by rw [hreach]; omega,rfl⟩
  rw [Wy.fin_i,decide_eq_true hn,cond_true,Wy.fin_i,e3,cond_true,Wy.fin_k];simp
 ·rw [Wy.fin_i,decide_eq_false hn]; rfl
theorem zbd8 (ls:yA) (hn:ls.length<=10) (h:∀ l∈ls,l.length<=300000):zdu ls=(true,ls.flatten):=by
 have hreach:zA=70368744177664:=rfl;unfold zdu zlF;have e:∀ l:yB,l∈ls->l.length<=300000:=h
 have h1:=zcy (W:=zgg) (z:=default) (l:=ls) (λi (n:Nat)=>(ls,(n:Int),ls,(ls.length:Int),(i:Int),())) (λ_ _=>()) (λy n=>.inl (n+y.length)) (λn=>(ls,(n:Int))) (λi n=>n<=i*300000)
  (λi n hi hI=>.inl ⟨_,rfl,by have:=e _ (zn hi); omega,λH K D=>by
   show (zcZ ls n ls ls.length i).ev H K D=_;unfold zcZ;have hle:=e _ (zn hi);have hw:IntKind.i64.wrap ((n:Int)+((ls.getD i default).length:Int))=((n+(ls.getD i default).length:Nat):Int):=zmk (by omega)
   simp only [Wy.ev_i,Wy.ev_k,Wy.ev_h,Wy.ev_bn,Wy.ev_d,tT,hi,hw];have h0:decide (((n+(ls.getD i default).length:Nat):Int)<0)=false:=decide_eq_false (by omega)
   rw [h0,zw (by omega)]; rfl⟩)
  (λn hI H K D=>by
   show (zcZ ls n ls ls.length ls.length).ev H K D=_;unfold zcZ;simp only [Wy.ev_i,Wy.ev_k,tT,Nat.lt_irrefl]) (ls.length+Int.toNat (0:Int)+ls.length+(Int.ofNat ls.length).toNat +Int.toNat (0:Int)+(1:Nat)) 0 0 (by omega) (by omega) (by omega)
 rw [List.drop_zero,zcz] at h1;have h1:zla (ls.length+Int.toNat (0:Int)+ls.length+(Int.ofNat ls.length).toNat +Int.toNat (0:Int)+(1:Nat)) ls 0 ls (Int.ofNat ls.length) 0=_:=h1
 have hb:∀ (r:yA) (n:Nat),(∀ l∈r,l.length<=300000)->r.foldl (λn (y:yB)=>n+y.length) n<=n+r.length*300000:=λr=>by
  induction r with
  | nil=>intro n _; simp
  | cons y r ih=>
   intro n hr;have q1:=ih (n+y.length) λl hl=>hr l (by simp [hl])
   have q2:=hr y (by simp)
   rw [List.foldl_cons,qf]; omega
 have hsz:=hb ls 0 h
 have h2:=zcy (W:=zfT) (z:=default) (l:=ls) (λi (out:yB)=>((),ls,(ls.length:Int),(i:Int),())) (λ_ out=>(out,())) (λy out=>.inl (out++y)) (λout=>out) (λi out=>out.length<=i*300000)
  (λi out hi hI=>.inl ⟨_,rfl,by have:=e _ (zn hi); simp only [qg]; omega,λH K D=>by
   show (zcR ls ls.length i out).ev H K D=_;unfold zcR;have hle:=e _ (zn hi);have hr:decide ((out.length+(ls.getD i default).length)*32<=zA)=true:=by simp only [qe]; omega
   simp only [Wy.ev_i,Wy.ev_k,Wy.ev_h,Wy.ev_bn,Wy.ev_d,tT,hi,hr];rw [zw (by omega)]⟩)
  (λout hI H K D=>by
   show (zcR ls ls.length ls.length out).ev H K D=_;unfold zcR;simp only [Wy.ev_i,Wy.ev_k,tT,Nat.lt_irrefl]) (ls.length+(Int.ofNat ls.length).toNat +Int.toNat (0:Int)+([]:yB).length+(1:Nat)) 0 [] (by omega) (by omega) (by simp)
 rw [List.drop_zero,zcz] at h2;have h2:zkA (ls.length+(Int.ofNat ls.length).toNat +Int.toNat (0:Int)+([]:yB).length+(1:Nat)) ls (Int.ofNat ls.length) 0 []=_:=h2
 have hf:∀ (r:yA) (out:yB),r.foldl (λout y=>out++y) out=out++r.flatten:=λr=>by
  induction r with
  | nil=>intro out; simp
  | cons y r ih=>intro out; rw [List.foldl_cons,ih,List.flatten_cons,List.append_assoc]
 rw [Wy.fin_bn,h1,cond_true];simp only [Wy.fin_bn,zbho _ (show ls.foldl (λn (y:yB)=>n+y.length) 0<=4000000 by have:=Nat.mul_le_mul hn (Nat.le_refl 300000); omega),cond_true,h2,Wy.fin_k]
 rw [hf]; simp
theorem zbg9 (n:Nat) (h:n<=4000000):zea (n:Int)=(true,[]):=by
 have hreach:zA=70368744177664:=rfl;unfold zea zm7;have e0:IntKind.i64.wrap ((0:Int) - 0)=0:=rfl;have e1:IntKind.i64.wrap ((n:Int) - 0)=(n:Int):=by rw [zeH (by omega) (by omega)]; omega
 have e2:decide ((n:Int)<0)=false:=decide_eq_false (by omega)
 rw [Wy.fin_i,e2,cond_false,e0,e1];by_cases hn:(n:Int)>0
 ·have e3:(true&&(decide ((n:Int)*Int.ofNat (128:Nat)<=Int.ofNat zA)&&(decide ((n:Int)<=Int.ofNat zA)&& !Nat.beq (11:Nat) (0:Nat))))=true:=by
   simp only [qc,qe,Int.ofNat_eq_natCast];exact ⟨trivial,by rw [hreach]; omega,by rw [hreach]; omega,rfl⟩
  rw [Wy.fin_i,decide_eq_true hn,cond_true,Wy.fin_i,e3,cond_true,Wy.fin_k];simp
 ·rw [Wy.fin_i,decide_eq_false hn]; rfl
theorem zbey (ls:List (yC)) (hn:ls.length<=10) (h:∀ l∈ls,l.length<=300000):zdE ls=(true,ls.flatten):=by
 have hreach:zA=70368744177664:=rfl;unfold zdE zl4;have e:∀ l:yC,l∈ls->l.length<=300000:=h
 have h1:=zcy (W:=zgD) (z:=default) (l:=ls) (λi (n:Nat)=>(ls,(n:Int),ls,(ls.length:Int),(i:Int),())) (λ_ _=>()) (λy n=>.inl (n+y.length)) (λn=>(ls,(n:Int))) (λi n=>n<=i*300000)
  (λi n hi hI=>.inl ⟨_,rfl,by have:=e _ (zn hi); omega,λH K D=>by
   show (zc4 ls n ls ls.length i).ev H K D=_;unfold zc4;have hle:=e _ (zn hi);have hw:IntKind.i64.wrap ((n:Int)+((ls.getD i default).length:Int))=((n+(ls.getD i default).length:Nat):Int):=zmk (by omega)
   simp only [Wy.ev_i,Wy.ev_k,Wy.ev_h,Wy.ev_bn,Wy.ev_d,tT,hi,hw];have h0:decide (((n+(ls.getD i default).length:Nat):Int)<0)=false:=decide_eq_false (by omega)
   rw [h0,zw (by omega)]; rfl⟩)
  (λn hI H K D=>by
   show (zc4 ls n ls ls.length ls.length).ev H K D=_;unfold zc4;simp only [Wy.ev_i,Wy.ev_k,tT,Nat.lt_irrefl]) (ls.length+Int.toNat (0:Int)+ls.length+(Int.ofNat ls.length).toNat +Int.toNat (0:Int)+(1:Nat)) 0 0 (by omega) (by omega) (by omega)
 rw [List.drop_zero,zcz] at h1;have h1:zlD (ls.length+Int.toNat (0:Int)+ls.length+(Int.ofNat ls.length).toNat +Int.toNat (0:Int)+(1:Nat)) ls 0 ls (Int.ofNat ls.length) 0=_:=h1
 have hb:∀ (r:List (yC)) (n:Nat),(∀ l∈r,l.length<=300000)->r.foldl (λn (y:yC)=>n+y.length) n<=n+r.length*300000:=λr=>by
  induction r with
  | nil=>intro n _; simp
  | cons y r ih=>
   intro n hr;have q1:=ih (n+y.length) λl hl=>hr l (by simp [hl])
   have q2:=hr y (by simp)
   rw [List.foldl_cons,qf]; omega
 have hsz:=hb ls 0 h
 have h2:=zcy (W:=zgh) (z:=default) (l:=ls) (λi (out:yC)=>((),ls,(ls.length:Int),(i:Int),())) (λ_ out=>(out,())) (λy out=>.inl (out++y)) (λout=>out) (λi out=>out.length<=i*300000)
  (λi out hi hI=>.inl ⟨_,rfl,by have:=e _ (zn hi); simp only [qg]; omega,λH K D=>by
   show (zcX ls ls.length i out).ev H K D=_;unfold zcX;have hle:=e _ (zn hi);have hr:decide ((out.length+(ls.getD i default).length)*128<=zA)=true:=by simp only [qe]; omega
   simp only [Wy.ev_i,Wy.ev_k,Wy.ev_h,Wy.ev_bn,Wy.ev_d,tT,hi,hr];rw [zw (by omega)]⟩)
  (λout hI H K D=>by
   show (zcX ls ls.length ls.length out).ev H K D=_;unfold zcX;simp only [Wy.ev_i,Wy.ev_k,tT,Nat.lt_irrefl]) (ls.length+(Int.ofNat ls.length).toNat +Int.toNat (0:Int)+([]:yC).length+(1:Nat)) 0 [] (by omega) (by omega) (by simp)
 rw [List.drop_zero,zcz] at h2;have h2:zle (ls.length+(Int.ofNat ls.length).toNat +Int.toNat (0:Int)+([]:yC).length+(1:Nat)) ls (Int.ofNat ls.length) 0 []=_:=h2
 have hf:∀ (r:List (yC)) (out:yC),r.foldl (λout y=>out++y) out=out++r.flatten:=λr=>by
  induction r with
  | nil=>intro out; simp
  | cons y r ih=>intro out; rw [List.foldl_cons,ih,List.flatten_cons,List.append_assoc]
 rw [Wy.fin_bn,h1,cond_true];simp only [Wy.fin_bn,zbg9 _ (show ls.foldl (λn (y:yC)=>n+y.length) 0<=4000000 by have:=Nat.mul_le_mul hn (Nat.le_refl 300000); omega),cond_true,h2,Wy.fin_k]
 rw [hf]; simp
theorem zGw {d:Nat} (hd:d<=99):∀ (n:Nat) (a b out:yC),a.length+b.length<n->a.length+b.length+out.length<=1000000->(∀ x∈a,zc7 (zp d) x.At/\0<=x.Exp/\x.Exp<=1000000)->(∀ x∈b,0<=x.Exp/\x.Exp<=1000000)->
  ∃ a' b' out',zyS n a b out=(true,(a',b',out'))/\out'++(a'++b')=out++zbK a b/\a'.length<=a.length/\b'.length<=b.length/\out'.length<=out.length+a.length+b.length
 | 0,a,b,out,h,_,_,_=>by omega
 | n+1,a,b,out,h,hl,ha,hb=>by
  have hreach:zA=70368744177664:=rfl;show ∃ a' b' out',(zyL a b out).ev (λx y=>zyS n x.1 x.2.1 y.1) (λr=>(true,r)) (false,default)=_/\_
  unfold zyL
  match a,b,h,hl,ha,hb with
  | [],b,h,hl,ha,hb=>exact ⟨[],b,out,rfl,by rw [zbK]; simp,Nat.le_refl _,Nat.le_refl _,by omega⟩
  | x::a,[],h,hl,ha,hb=>
   have e1:decide (Int.ofNat (x::a).length>0)=true:=by simp
   refine ⟨x::a,[],out, ?_,by rw [zbK]; simp,Nat.le_refl _,Nat.le_refl _,by omega⟩
   rw [Wy.ev_i,e1,cond_true]; rfl
  | x::a,y::b,h,hl,ha,hb=>
   have hx:=ha x (by simp)
   have hy:=hb y (by simp)
   simp only [qf] at h hl;have e1:decide (Int.ofNat (x::a).length>0)=true:=by simp
   have e2:decide (Int.ofNat (y::b).length>0)=true:=by simp
   have e3:(decide ((0:Int)<=0)&&decide ((0:Int)<Int.ofNat (x::a).length))=true:=by simp
   have e4:(decide ((0:Int)<=0)&&decide ((0:Int)<Int.ofNat (y::b).length))=true:=by simp
   have e5:(x::a).getD (Int.toNat 0) default=x:=rfl;have e6:(y::b).getD (Int.toNat 0) default=y:=rfl;have e7:∀ z:Fc,decide ((out.length+[z].length)*128<=zA)=true:=λz=>by simp only [qe,List.length_singleton]; omega
   have e8:(decide ((0:Int)<=1)&&decide ((1:Int)<=Int.ofNat (x::a).length)&&decide (Int.ofNat (x::a).length<=Int.ofNat (x::a).length))=true:=by simp; omega
   have e9:(decide ((0:Int)<=1)&&decide ((1:Int)<=Int.ofNat (y::b).length)&&decide (Int.ofNat (y::b).length<=Int.ofNat (y::b).length))=true:=by simp; omega
   have e10:List.take ((Int.ofNat (x::a).length).toNat - Int.toNat 1) (List.drop (Int.toNat 1) (x::a))=a:=by rw [show Int.toNat 1=1 from rfl,zxc]; rfl
   have e11:List.take ((Int.ofNat (y::b).length).toNat - Int.toNat 1) (List.drop (Int.toNat 1) (y::b))=b:=by rw [show Int.toNat 1=1 from rfl,zxc]; rfl
   have ea:∀ z∈a,zc7 (zp d) z.At/\0<=z.Exp/\z.Exp<=1000000:=λz hz=>ha z (by simp [hz])
   have eb:∀ z∈b,0<=z.Exp/\z.Exp<=1000000:=λz hz=>hb z (by simp [hz])
   have ex:(FO.mk x.At x.Exp:Fc)=x:=rfl;have ey:(FO.mk y.At y.Exp:Fc)=y:=rfl;simp only [Wy.ev_i,Wy.ev_k,Wy.ev_h,Wy.ev_bn,Wy.ev_d,e1,e2,e3,e4,e5,e6,e7,e8,e9,e10,e11,cond_true,At.eta,zwu hx.1 hd,z4e,ex,ey];rw [zbK];have hcf:cF x y=zbb (zdO x.At) (zdO y.At):=rfl;rw [<- hcf];by_cases h1:cF x y<0
   ·simp only [h1,decide_true,cond_true,if_true];obtain ⟨a',b',out',r1,r2,r3,r4,r5⟩:=zGw hd n a (y::b) (out++[x]) (by simp only [qf]; omega) (by simp only [qf,qg,List.length_nil]; omega) ea hb
    refine ⟨a',b',out',r1,by rw [r2]; simp,by simp only [qf]; omega,by simpa using r4,by simp only [qf,qg,List.length_nil] at r5 ⊢; omega⟩
   ·by_cases h2:0<cF x y
    ·have h2':cF x y>0:=h2;simp only [h1,h2,h2',decide_true,decide_false,cond_true,cond_false,if_true,if_false];obtain ⟨a',b',out',r1,r2,r3,r4,r5⟩:=zGw hd n (x::a) b (out++[y]) (by simp only [qf]; omega) (by simp only [qf,qg,List.length_nil]; omega) ha eb
     refine ⟨a',b',out',r1,by rw [r2]; simp,by simpa using r3,by simp only [qf]; omega,by simp only [qf,qg,List.length_nil] at r5 ⊢; omega⟩
    ·have h2':¬ cF x y>0:=h2;have hw:IntKind.i64.wrap (x.Exp+y.Exp)=x.Exp+y.Exp:=zeH (by omega) (by omega)
     simp only [h1,h2,h2',decide_false,cond_false,if_false,hw];have hk:(x.At.Kind==3||x.At.Kind==4)=decide (x.At.Kind=3\/x.At.Kind=4):=by rw [zf8,zf8, <- Bool.decide_or]
     rw [hk];by_cases h3:x.At.Kind=3\/x.At.Kind=4
     ·simp only [h3,decide_true,Bool.not_true,cond_false,if_true];obtain ⟨a',b',out',r1,r2,r3,r4,r5⟩:=zGw hd n a b (out++[x]) (by omega) (by simp only [qg,qf,List.length_nil]; omega) ea eb
      refine ⟨a',b',out',r1,by rw [r2]; simp,by simp only [qf]; omega,by simp only [qf]; omega,by simp only [qf,qg,List.length_nil] at r5 ⊢; omega⟩
     ·simp only [h3,decide_false,Bool.not_false,cond_true,if_false];obtain ⟨a',b',out',r1,r2,r3,r4,r5⟩:=zGw hd n a b (out++[⟨x.At,x.Exp+y.Exp⟩]) (by omega) (by simp only [qg,qf,List.length_nil]; omega) ea eb
      refine ⟨a',b',out',r1,by rw [r2]; simp,by simp only [qf]; omega,by simp only [qf]; omega,by simp only [qf,qg,List.length_nil] at r5 ⊢; omega⟩
theorem zbfo {d:Nat} (hd:d<=99) (a b:yC) (hl:a.length+b.length<=100000) (ha:∀ x∈a,zc7 (zp d) x.At/\0<=x.Exp/\x.Exp<=1000000) (hb:∀ x∈b,0<=x.Exp/\x.Exp<=1000000):znU a b=(true,zbK a b):=by
 unfold znU zIz;obtain ⟨a',b',out',r1,r2,r3,r4,r5⟩:=zGw hd (a.length+b.length+(0:Nat)+(1:Nat)) a b [] (by omega) (by simp; omega) ha hb
 rw [Wy.fin_bn,r1,cond_true]
 have hc:=zbey [out',a',b'] (by simp) (λl hl'=>by
  simp only [qd,List.not_mem_nil,or_false] at hl';simp only [List.length_nil] at r5;rcases hl' with rfl | rfl | rfl <;>omega)
 simp only [Wy.fin_bn,hc,cond_true,Wy.fin_k];congr 1
 simpa using r2
theorem z8U {a b:Int} (ha:1<=a/\a<=1152921504606846976) (hb:1<=b/\b<=1152921504606846976):zqN a b=(true,zyY a b)/\zNC a b=(true,zyY a b):=by
 obtain ⟨h1,h2⟩:=z2S ha hb;have h0:(!decide (b=(0:Int)))=true:=by rw [decide_eq_false (by omega)]; rfl
 have hq:0<=Int.tdiv 1152921504606846976 b/\Int.tdiv 1152921504606846976 b<=1152921504606846976:=by
  rw [Int.tdiv_eq_ediv_of_nonneg (by omega)]
  exact ⟨Int.ediv_nonneg (by omega) (by omega),Int.ediv_le_self _ (by omega)⟩
 have hw:IntKind.i64.wrap (Int.tdiv 1152921504606846976 b)=Int.tdiv 1152921504606846976 b:=zeH (by omega) (by omega)
 have key:∀ w:Int,(w=if Int.tdiv 1152921504606846976 b<a then 1152921504606846976 else IntKind.i64.wrap (a*b))->w=zyY a b:=λw e=>by
  rw [e]; unfold zyY;split
  ·rfl
  ·rename_i hn;have h3:=h2 hn;have h4:=Int.mul_nonneg (show 0<=a by omega) (show 0<=b by omega)
   exact zeH (by omega) (by omega)
 constructor
 ·unfold zqN zG5;rw [Wy.fin_i,h0,cond_true,Wy.fin_i,hw,Wy.fin_k,Wy.fin_k];by_cases hc:Int.tdiv 1152921504606846976 b<a
  ·rw [decide_eq_true hc,cond_true]; exact congrArg (Prod.mk true) (key _ (by rw [if_pos hc]))
  ·rw [decide_eq_false hc,cond_false]; exact congrArg (Prod.mk true) (key _ (by rw [if_neg hc]))
 ·unfold zNC zS6;rw [Wy.fin_i,h0,cond_true,Wy.fin_i,hw,Wy.fin_k,Wy.fin_k];by_cases hc:Int.tdiv 1152921504606846976 b<a
  ·rw [decide_eq_true hc,cond_true]; exact congrArg (Prod.mk true) (key _ (by rw [if_pos hc]))
  ·rw [decide_eq_false hc,cond_false]; exact congrArg (Prod.mk true) (key _ (by rw [if_neg hc]))
theorem zuJ {τ:Type} [Inhabited τ] {R:τ->τ->Prop} (ht:∀ x y z,R x y->R y z->R x z):∀ l:List τ,(∀ k,0<k->k<l.length->R (l.getD (k - 1) default) (l.getD k default))->l.Pairwise R
 | [],_=>.nil
 | [x],_=>by simp
 | x::y::r,h=>by
  have h1:R x y:=h 1 (by omega) (by simp)
  have h2:=zuJ ht (y::r) λk hk hl=>by
   have:=h (k+1) (by omega) (by simpa using hl)
   obtain ⟨j,rfl⟩:∃ j,k=j+1:=⟨k - 1,by omega⟩
   exact this
  refine qi.2 ⟨λz hz=> ?_,h2⟩
  rcases qd.1 hz with rfl | hz
  ·exact h1
  ·exact ht x y z h1 ((qi.1 h2).1 z hz)
def GF (f:Fc):Prop:=(zd3 (zbA 9) f.At=true/\zgB f.At/\f.At.Items.length<=1024)/\1<=f.Exp/\f.Exp<=1000000
def GT (t:Term):Prop:=cOK t/\t.Fs.length<=1000/\∀ f∈t.Fs,GF f
def VT (t:Term):Prop:=GT t/\Srf t.Fs/\t.Fs.length<=64/\∀ f∈t.Fs,eOK f/\f.Exp<=64
theorem ztQ {a:yB} (h:zU a=true) (hw:zgE a):Srs a/\a.length<=512/\∀ t∈a,VT t:=by
 have h9:=zZ6 h (Nat.le_refl 9);rw [z14] at h;obtain ⟨w1,w2,w3,w4⟩:=zwk (zGm h);have hall:=h;simp only [zxP,qc] at hall;refine ⟨zuJ (R:=λx y=>cT x y<0) (λx y z h1 h2=>zLv h1 h2) a λk hk hl=> ?_,w1,λt ht=> ?_⟩
 ·have:=zdY.1 hall.2 k (by omega) (by omega)
  simp only [zDt,qc,Bool.or_eq_true,qe] at this;rcases this.1.2 with e | e
  ·omega
  ·exact e
 ·obtain ⟨hc,hok⟩:=zvu h ht;obtain ⟨l1,l2⟩:=w4 t ht;have hwt:=zoc (zvB (ztf hw t ht)).2.1;refine ⟨⟨hc,by omega,λf hf=> ?_⟩,zuJ (R:=λx y=>cF x y<0) (λx y z h1 h2=>zFs h1 h2) _ λk hk hl=> ?_,l1,λf hf=> ?_⟩
  ·obtain ⟨⟨e1,_⟩,hv⟩:=zpC hok hf;exact ⟨⟨by rw [zbcj (Nat.le_refl 9)]; exact hv,(zq4 (hwt f hf)).1,(l2 f hf).2⟩,e1,by have:=(l2 f hf).1; omega⟩
  ·have:=zdY.1 hok k (by omega) (by omega)
   simp only [zOn,qc,Bool.or_eq_true,qe] at this;rcases this.1.2 with e | e
   ·omega
   ·exact e
  ·obtain ⟨⟨_,e2⟩,hv⟩:=zpC hok hf;exact ⟨⟨zC1 hv,e2⟩,(l2 f hf).1⟩
theorem zvZ {m:Nat} {x:At} (h:zd3 (zbA m) x=true) (hi:x.Items.length<=1024):zc7 (zp 9) x:=by
 cases zdm.1 h with
 | var r h=>exact ⟨⟨by simp,by simp,by show (ByteArray.mk #[]).size<=_; decide⟩,λa ha=>(by cases ha),λw hw=>(by cases hw)⟩
 | mon b c hb hc _ _ _=>
  refine ⟨⟨by simp,by simp,by show (ByteArray.mk #[]).size<=_; decide⟩,λy hy=> ?_,λw hw=>(by cases hw)⟩
  simp only [qd,List.not_mem_nil,or_false] at hy;rcases hy with rfl | rfl
  ·exact (ze0 hb).1
  ·exact (ze0 hc).1
 | del b hb _ _ _=>
  refine ⟨⟨by simp,by simp,by show (ByteArray.mk #[]).size<=_; decide⟩,λy hy=> ?_,λw hw=>(by cases hw)⟩
  rw [qh] at hy; subst hy; exact (ze0 hb).1
 | abs b hb _ _=>
  refine ⟨⟨by simp,by simp,by show (ByteArray.mk #[]).size<=_; decide⟩,λy hy=> ?_,λw hw=>(by cases hw)⟩
  rw [qh] at hy; subst hy; exact (ze0 hb).1
 | tst f l o b hl hv hs hf=>
  obtain ⟨_,hb,hit⟩:=ztm hf;simp only at hi;exact ⟨⟨by simp,by simp only; omega,by have:=zvo hb; simp only; omega⟩,λa ha=>(by cases ha),λw hw=>⟨by have:=zvo (hit w hw).1; omega,(ze0 (hv w hw).1).1⟩⟩
theorem GT.fine {t:Term} (h:GT t):zgJ (zp 9) t.Fs:=⟨by have:=h.2.1; omega,λf hf=>zvZ (h.2.2 f hf).1.1 (h.2.2 f hf).1.2.2⟩
theorem GF.gF {f:Fc} (h:GF f):gF (zbA 9) f:=⟨h.1.1,h.1.2.1,by constructor <;>(have:=h.2; omega)⟩
theorem GT.text {t:Term} (h:GT t):zqQ t.Fs=(true,bs (txL t.Fs)):=
 (z7X 1000).2.2 9 t.Fs h.2.1 (λf hf=>⟨(h.2.2 f hf).1.1,(h.2.2 f hf).1.2.1,(h.2.2 f hf).1.2.2,(h.2.2 f hf).gF.2.2⟩) (by omega)
theorem GT.inj {s t:Term} (hs:GT s) (ht:GT t) (h:bs (txL s.Fs)=bs (txL t.Fs)):s.Fs=t.Fs:=
 zbge (λf hf=>(hs.2.2 f hf).gF) (λf hf=>(ht.2.2 f hf).gF) (zbgK h)
def zpw:Int->yB->List (Go.Value×Int)
 | _,[]=>[]
 | i,t::r=>(.string (bs (txL t.Fs)),i)::zpw (i+1) r
def zHv (k:ByteArray):yB->Option Nat
 | []=>none
 | t::r=>if k=bs (txL t.Fs) then some 0 else (zHv k r).map (· +1)
theorem zMK (k:ByteArray) (t:Term) (r:yB):zHv k (t::r)=if k=bs (txL t.Fs) then some 0 else (zHv k r).map (· +1):=rfl
theorem zbdB (a b:ByteArray):zlN (.string a) (.string b)=decide (a=b):=by
 cases a with | mk x=>cases b with | mk y=>
 show (x==y)=_;by_cases h:x=y
 ·subst h; simp
 ·have:(x==y)=false:=by rw [beq_eq_false_iff_ne]; exact h
  rw [this]; simp [h]
theorem z7Z (k:ByteArray):∀ (o:yB) (i:Int),zbbY (.string k) (zpw i o)=(zHv k o).isSome
 | [],i=>rfl
 | t::r,i=>by
  show (bif zlN (.string k) (.string (bs (txL t.Fs))) then true else zbbY (.string k) (zpw (i+1) r))=_
  rw [zbdB,z7Z k r,zMK];by_cases h:k=bs (txL t.Fs)
  ·rw [decide_eq_true h,if_pos h]; rfl
  ·rw [decide_eq_false h,if_neg h]; cases zHv k r <;>rfl
theorem z7P (k:ByteArray):∀ (o:yB) (i:Int),zDU (.string k) (zpw i o)=(zHv k o).map λj:Nat=>i+(j:Int)
 | [],i=>rfl
 | t::r,i=>by
  show (bif zlN (.string k) (.string (bs (txL t.Fs))) then some i else zDU (.string k) (zpw (i+1) r))=_
  rw [zbdB,z7P k r,zMK];by_cases h:k=bs (txL t.Fs)
  ·rw [decide_eq_true h,if_pos h]; simp
  ·rw [decide_eq_false h,if_neg h];cases zHv k r with
   | none=>rfl
   | some j=>
    have e:i+1+(j:Int)=i+((j+1:Nat):Int):=by omega
    simp only [cond_false,Option.map_some,e]
theorem z7S (k:ByteArray) (x:Int):∀ (o:yB) (i:Int),zHv k o=none->zbba (.string k) x (zpw i o)=zpw i o++[(.string k,x)]
 | [],i,_=>rfl
 | t::r,i,h=>by
  rw [zMK] at h;by_cases hk:k=bs (txL t.Fs)
  ·rw [if_pos hk] at h; cases h
  ·rw [if_neg hk] at h;show (bif zlN (.string k) (.string (bs (txL t.Fs))) then _ else (.string (bs (txL t.Fs)),i)::zbba (.string k) x (zpw (i+1) r))=_
   rw [zbdB,decide_eq_false hk,z7S k x r (i+1) (by cases hp:zHv k r with | none=>rfl | some j=>rw [hp] at h; cases h)]
   rfl
theorem z4V (t:Term):∀ (o:yB) (i:Int),zpw i (o++[t])=zpw i o++[(.string (bs (txL t.Fs)),i+(o.length:Int))]
 | [],i=>by simp [zpw]
 | x::r,i=>by
  have e:i+1+(r.length:Int)=i+((r.length+1:Nat):Int):=by omega
  simp only [List.cons_append,zpw,qf,z4V t r,e]
theorem z5f (y:Term):∀ (o:yB) (j:Nat) (i:Int),(o.getD j default).Fs=y.Fs->zpw i (o.set j y)=zpw i o
 | [],j,i,_=>rfl
 | x::r,0,i,h=>by simp only [List.set_cons_zero,zpw]; rw [show x.Fs=y.Fs from h]
 | x::r,j+1,i,h=>by simp only [List.set_cons_succ,zpw]; rw [z5f y r j (i+1) h]
theorem zbax {t:Term} (ht:GT t):∀ {o:yB},(∀ x∈o,GT x)->(match zHv (bs (txL t.Fs)) o with
  | some j=>j<o.length/\(o.getD j default).Fs=t.Fs/\zmY t o=o.set j ⟨zzl (o.getD j default).Cf t.Cf,(o.getD j default).Fs⟩
  | none=>zmY t o=o++[t])
 | [],_=>rfl
 | x::r,h=>by
  have ih:=zbax ht (o:=r) λy hy=>h y (by simp [hy])
  rw [zMK];unfold zmY;by_cases hk:bs (txL t.Fs)=bs (txL x.Fs)
  ·have e:=GT.inj ht (h x (by simp)) hk
   rw [if_pos hk,if_pos e.symm];exact ⟨by simp,e.symm,rfl⟩
  ·have e:¬ x.Fs=t.Fs:=λe=>hk (by rw [e])
   rw [if_neg hk,if_neg e];cases hp:zHv (bs (txL t.Fs)) r with
   | none=>rw [hp] at ih; simp only [Option.map_none]; rw [ih]; rfl
   | some j=>
    rw [hp] at ih;obtain ⟨i1,i2,i3⟩:=ih;simp only [Option.map_some];exact ⟨by simp; exact i1,i2,by rw [i3]; rfl⟩
theorem zbcQ {t:Term} (ht:GT t) {o:yB} (ho:∀ x∈o,GT x):∀ x∈zmY t o,GT x:=by
 induction o with
 | nil=>intro x hx; simp only [zmY,qh] at hx; subst hx; exact ht
 | cons y r ih=>
  intro x hx;unfold zmY at hx;split at hx
  ·rcases qd.1 hx with rfl | hx
   ·have:=ho y (by simp)
    exact ⟨z5p this.1.1 ht.1.1,this.2⟩
   ·exact ho x (by simp [hx])
  ·rcases qd.1 hx with rfl | hx
   ·exact ho x (by simp)
   ·exact ih (λz hz=>ho z (by simp [hz])) x hx
theorem z4r (t:Term):∀ o:yB,(zmY t o).length<=o.length+1
 | []=>by simp [zmY]
 | y::r=>by
  have:=z4r t r;unfold zmY;split
  ·simp
  ·simp only [qf]; omega
theorem zbcp (ts:yB) (hl:ts.length<=1000000) (h:∀ t∈ts,GT t) (n:Nat) (hn:ts.length<n):zuD n ts ts.length 0 [] []=(true,zNf ts):=by
 have hreach:zA=70368744177664:=rfl
 have h2:=zcy (W:=zuY) (z:=default) (l:=ts) (λi (out:yB)=>((),(),ts,(ts.length:Int),(i:Int),())) (λ_ out=>(zpw 0 out,out,())) (λt out=>.inl (zmY t out)) (λout=>out) (λi out=>out.length<=i/\∀ t∈out,GT t)
  (λi out hi hI=>.inl ⟨_,rfl,⟨by have:=z4r (ts.getD i default) out; omega,zbcQ (h _ (zn hi)) hI.2⟩,λH K D=>by
   show (zj0 ts ts.length i (zpw 0 out) out).ev H K D=_;unfold zj0;have ht:=h _ (zn hi);have hp:=zbax ht hI.2;have hhas:=z7Z (bs (txL (ts.getD i default).Fs)) out 0;have hget:=z7P (bs (txL (ts.getD i default).Fs)) out 0;simp only [Wy.ev_i,Wy.ev_k,Wy.ev_h,Wy.ev_bn,Wy.ev_d,tT,hi,ht.text];rw [hhas,hget,zw (by omega)]
   cases hpos:zHv (bs (txL (ts.getD i default).Fs)) out with
   | none=>
    rw [hpos] at hp;have hb:decide ((out.length+[ts.getD i default].length)*32<=zA)=true:=by simp only [qe,List.length_singleton]; omega
    simp only [Option.isSome_none,cond_false,hb,cond_true];rw [z7S _ _ _ _ hpos,hp,z4V];simp
   | some j=>
    rw [hpos] at hp;obtain ⟨p1,p2,p3⟩:=hp;have hj:=hI.2 _ (zn p1);have hw:IntKind.i64.wrap ((out.getD j default).Cf+(ts.getD i default).Cf)=(out.getD j default).Cf+(ts.getD i default).Cf:=zbaV ⟨by have:=hj.1.1; omega,hj.1.2⟩ ⟨by have:=ht.1.1; omega,ht.1.2⟩
    have e1:(0:Int)+(j:Int)=(j:Int):=by omega
    have e2:decide (j<out.length)=true:=decide_eq_true p1;simp only [Option.isSome_some,Option.map_some,Option.getD_some,e1,cond_true,tT,e2,hw];rw [p3,z5f ⟨zzl (out.getD j default).Cf (ts.getD i default).Cf,(out.getD j default).Fs⟩ out j 0 rfl];rfl⟩)
  (λout hI H K D=>by
   show (zj0 ts ts.length ts.length (zpw 0 out) out).ev H K D=_;unfold zj0;simp only [Wy.ev_i,Wy.ev_k,tT,Nat.lt_irrefl]) n 0 [] (by omega) (by omega) ⟨by simp,λt ht=>by cases ht⟩
 rw [List.drop_zero,zcz] at h2;exact h2
theorem zbaM:∀ (ts o:yB),(∀ t∈ts,GT t)->(∀ t∈o,GT t)->∀ x∈ts.foldl (λa t=>zmY t a) o,GT x
 | [],o,_,ho=>ho
 | t::r,o,h,ho=>zbaM r (zmY t o) (λx hx=>h x (by simp [hx])) (zbcQ (h t (by simp)) ho)
theorem z5Y:∀ (ts o:yB),(ts.foldl (λa t=>zmY t a) o).length<=o.length+ts.length
 | [],o=>by simp
 | t::r,o=>by
  have h1:=z5Y r (zmY t o);have h2:=z4r t o;rw [List.foldl_cons,qf]; omega
theorem z1R (ts:yB) (hl:ts.length<=1000000) (h:∀ t∈ts,GT t):zh5 ts=(true,zeO [] ts):=by
 unfold zh5 zDg;have hL:=zbcp ts hl h (ts.length+(Int.ofNat ts.length).toNat +Int.toNat (0:Int)+(0:Nat)+(0:Nat)+(1:Nat)) (by omega)
 have hL:zuD (ts.length+(Int.ofNat ts.length).toNat +Int.toNat (0:Int)+(0:Nat)+(0:Nat)+(1:Nat)) ts (Int.ofNat ts.length) 0 [] []=_:=hL;rw [Wy.fin_bn,hL,cond_true];obtain ⟨hp,hd⟩:=z5O ts [] [] .nil .nil .nil;have hs:=zQs ts [] .nil;have hg:∀ x∈zNf ts,GT x:=zbaM ts [] h λx hx=>by cases hx
 have hlen:(zNf ts).length<=1000000:=by have:=z5Y ts []; simp at this; exact Nat.le_trans this hl
 have e:∀ x∈zNf ts,∀ y,zbW x y=(true,cT x y):=λx hx y=>zwv (hg x hx).fine (by omega) y
 have ok:SortOK zbW (zNf ts):=by
  refine ⟨by omega,λx hx y _=>by rw [e x hx],λx hx=> ?_,λx hx y hy z hz h1 h2=> ?_,λx hx y hy z hz h1 h2=> ?_,λx hx y hy h1 h2=> ?_⟩
  ·rw [e x hx]; have:=zJF (x:=x) (y:=x) rfl; simp only; omega
  ·rw [e x hx] at h1 ⊢; rw [e y hy] at h2;exact zLv h1 h2
  ·rw [e x hx] at h1 ⊢; rw [e y hy] at h2;simp only at h1 h2 ⊢;have a1:=zFz x y;have a2:=zFz y z;have a3:=zFz x z;have:=zJg (zby z.Fs) (zby y.Fs) (zby x.Fs) (show cT z y<=0 by omega) (show cT y x<=0 by omega)
   have:cT z x<=0:=this;omega
  ·rw [e x hx] at h1; rw [e y hy] at h2;simp only at h1 h2;have a1:=zFz x y;have hz:x.Fs=y.Fs:=zXG (by omega)
   by_cases hxy:x=y
   ·exact hxy
   ·exfalso
    -- two terms with the same factors are one
    have hdd:Dst (zNf ts):=hd;have:=List.pairwise_iff_getElem.1 hdd;obtain ⟨i,hi,ei⟩:=List.mem_iff_getElem.1 hx;obtain ⟨j,hj,ej⟩:=List.mem_iff_getElem.1 hy;rcases Nat.lt_trichotomy i j with hij | hij | hij
    ·exact this i j hi hj hij (by rw [ei,ej]; exact hz)
    ·subst hij; exact hxy (ei.symm.trans ej)
    ·exact this j i hj hi hij (by rw [ei,ej]; exact hz.symm)
 unfold zbM z84;simp only [Wy.fin_bn,Wy.fin_k,decide_eq_true ok,cond_true];congr 1;refine (ok.unique (hp:(zeO [] ts).Perm (zNf ts)) ?_).symm;refine hs.imp_of_mem λ{x y} hx hy hxy=> ?_
 rw [e y ((hp:(zeO [] ts).Perm (zNf ts)).mem_iff.1 hy)];have:=zFz x y;simp only; omega
mutual
theorem z9D:∀ x:At,zfa x<=zE1 x
 | ⟨_,_,a,_,i,_,_⟩=>by
  rw [zfa,zE1];have h1:=zZl a;have h2:=zVS i;omega
theorem zPY:∀ l:yC,zbI l<=zhk l
 | []=>by rw [zbI,zhk]; exact Nat.le_refl _
 | ⟨x,_⟩::r=>by
  rw [zbI,zhk];have h1:=z9D x;have h2:=zPY r;omega
theorem zJz:∀ l:yB,zN l<=zej l
 | []=>by rw [zN,zej]; exact Nat.le_refl _
 | ⟨_,fs⟩::r=>by
  rw [zN,zej];have h1:=zPY fs;have h2:=zJz r;omega
theorem zZl:∀ l:yA,ze5 l<=zqn l
 | []=>by rw [ze5,zqn]; exact Nat.le_refl _
 | a::r=>by
  rw [ze5,zqn];have h1:=zJz a;have h2:=zZl r;omega
theorem zVS:∀ l:yD,zc6 l<=l.length+zk0 l
 | []=>by rw [zc6,zk0]; exact Nat.zero_le _
 | ⟨_,a⟩::r=>by
  rw [zc6,zk0];have h1:=zJz a;have h2:=zVS r;simp only [qf];omega
end
theorem zbeb (d:Nat):zp (d+1) []:=⟨by simp,λt ht=>by cases ht⟩
def zS9 (a:yB) (b:yB):Wy0 (yB×Int):=.bn (zfK a) λr3=>.i (!r3) (.k ([],1)) (.bn (zfK b) λr2=>.i (!r2) (.k ([],1)) (.i (Int.ofNat b.length==0) (.k (a,0)) (.i (Int.ofNat a.length==0) (.k ([],0)) (.bn (zpB a b) λr1=>.i (r1) (.k ([],0)) (.bn (zm5 (zmD (At.mk 1 (RowID.mk 0 0) [a,b] 0 [] 0 (Value.mk 0 0 (ByteArray.mk #[])))).2) λr0=>.k (r0.1,r0.2))))))
def zY7 (a:yB) (b:yB):=(zS9 a b).fin default
def zTf (a:yB):Wy0 (yB×Int):=.bn (zfK a) λr4=>.i (!r4) (.k ([],1)) (.i (Int.ofNat a.length==0) (.k (a,0)) (.bn (zqM a) λr3=>.i (r3) (.k (a,0)) (.i (Int.ofNat a.length==1) (.bn (ziB a) λr1=>.i (r1) (.k (zVo.2,0)) (.bn (zm5 (zmD (At.mk 2 (RowID.mk 0 0) [a] 0 [] 0 (Value.mk 0 0 (ByteArray.mk #[])))).2) λr0=>.k (r0.1,r0.2))) (.bn (zm5 (zmD (At.mk 2 (RowID.mk 0 0) [a] 0 [] 0 (Value.mk 0 0 (ByteArray.mk #[])))).2) λr2=>.k (r2.1,r2.2)))))
def zZr (a:yB):=(zTf a).fin default
def zPj (a:yB):Wy0 (yB×Int):=.bn (zfK a) λr2=>.i (!r2) (.k ([],1)) (.i (Int.ofNat a.length==0) (.k (zVo.2,0)) (.bn (ziB a) λr1=>.i (r1) (.k ([],0)) (.bn (zm5 (zmD (At.mk 3 (RowID.mk 0 0) [a] 0 [] 0 (Value.mk 0 0 (ByteArray.mk #[])))).2) λr0=>.k (r0.1,r0.2))))
def zWX (a:yB):=(zPj a).fin default
def zSQ (n_:Int):Wy0 (yB):=.i (decide (n_<1)) (.k []) (.k [TO.mk (if 1152921504606846976<n_ then 1152921504606846976 else n_) []])
def zZt (n_:Int):=(zSQ n_).fin default
end Go.Proofs.YtoknknbmfmddbaaGreatDoor
end
