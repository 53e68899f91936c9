/- Texts of this claim, joined (the program, its functions in plain words, and what they compute). -/
import Derived.Test.YtoknknbmfmddbaaGreatDoorGC8
set_option autoImplicit false
set_option linter.unusedVariables false
set_option linter.unusedSectionVars false
set_option linter.unusedSimpArgs false
set_option maxRecDepth 1000000
set_option maxHeartbeats 0
/- Copies are equal to what they are copied from; results within the limits. -/
noncomputable section
namespace Go.Proofs.YtoknknbmfmddbaaGreatDoor
open Go Go.Ab
section
variable (g:yB->Bool×yB)
theorem zbgp (l:yA) (hl:l.length<=1000000) (hg:∀ a∈l,g a=(true,a)) (n:Nat) (hn:l.length<n) (x0 x1 x2 x3:Int) (x4:yD) (x5 x6 x7:Int) (x8:ByteArray) (t0 t1 t2 t3 t4 t5 t6:Int) (t7:ByteArray):
  zv5 g n l.length 0 x0 x1 x2 x3 x4 x5 x6 x7 x8 t0 t1 t2 t3 t4 t5 t6 t7 l=(true,(x0,x1,x2,x3,x4,x5,x6,x7,x8,t0,t1,t2,t3,t4,t5,t6,t7,l)):=by
 have:=zcY (W:=znv g) (z:=default) l.length (λi=>((),(),(l.length:Int),(i:Int),())) (λ_=>((x0,x1,x2,(),x3,x4,x5,x6,x7,x8,()),(t0,t1,t2,(),t3,(),t4,t5,t6,t7,()),l,())) (λ_=>true) default (x0,x1,x2,x3,x4,x5,x6,x7,x8,t0,t1,t2,t3,t4,t5,t6,t7,l)
  (λi hi H K D=>by
   show (zf5 g l.length i x0 x1 x2 x3 x4 x5 x6 x7 x8 t0 t1 t2 t3 t4 t5 t6 t7 l).ev H K D=_;unfold zf5;simp only [Wy.ev_i,Wy.ev_k,Wy.ev_h,Wy.ev_bn,Wy.ev_d,tT,hi,hg _ (zn hi)];rw [zD (by omega),zYQ hi])
  (λH K D=>by
   show (zf5 g l.length l.length x0 x1 x2 x3 x4 x5 x6 x7 x8 t0 t1 t2 t3 t4 t5 t6 t7 l).ev H K D=_;unfold zf5;simp only [Wy.ev_i,Wy.ev_k,tT,Nat.lt_irrefl]) n hn
 rw [show zeo (λ_=>true) l.length 0=true from zdP.2 λ_ _ _=>rfl] at this
 exact this
theorem zbgA (l:yD) (hl:l.length<=1000000) (hg:∀ a∈l,g a.Ann=(true,a.Ann)) (n:Nat) (hn:l.length<n) (x0 x1 x2 x3 x4 x5 x6:Int) (x7:ByteArray) (t0 t1 t2 t3 t4 t5 t6:Int) (t7:ByteArray) (b2:yA):
  zvp g n l.length 0 x0 x1 x2 x3 x4 x5 x6 x7 t0 t1 t2 t3 t4 t5 t6 t7 b2 l=(true,(x0,x1,x2,x3,x4,x5,x6,x7,t0,t1,t2,t3,t4,t5,t6,t7,b2,l)):=by
 have:=zcY (W:=znO g) (z:=default) l.length (λi=>((),(),(l.length:Int),(i:Int),())) (λ_=>((x0,x1,x2,(),x3,(),x4,x5,x6,x7,()),(t0,t1,t2,(),t3,(),t4,t5,t6,t7,()),b2,l,())) (λ_=>true) default (x0,x1,x2,x3,x4,x5,x6,x7,t0,t1,t2,t3,t4,t5,t6,t7,b2,l)
  (λi hi H K D=>by
   show (zf6 g l.length i x0 x1 x2 x3 x4 x5 x6 x7 t0 t1 t2 t3 t4 t5 t6 t7 b2 l).ev H K D=_;unfold zf6;simp only [Wy.ev_i,Wy.ev_k,Wy.ev_h,Wy.ev_bn,Wy.ev_d,tT,hi,hg _ (zn hi)];have:l.set i (⟨(l.getD i default).Value,(l.getD i default).Ann⟩:Wd)=l:=zYQ hi;rw [zD (by omega),this])
  (λH K D=>by
   show (zf6 g l.length l.length x0 x1 x2 x3 x4 x5 x6 x7 t0 t1 t2 t3 t4 t5 t6 t7 b2 l).ev H K D=_;unfold zf6;simp only [Wy.ev_i,Wy.ev_k,tT,Nat.lt_irrefl]) n hn
 rw [show zeo (λ_=>true) l.length 0=true from zdP.2 λ_ _ _=>rfl] at this
 exact this
theorem z0C (x:At) (h1:x.Ag.length<=1000000) (h2:x.Items.length<=1000000) (hg:∀ a∈x.Ag,g a=(true,a)) (hgi:∀ w∈x.Items,g w.Ann=(true,w.Ann)):ziz g x=(true,x):=by
 have hreach:zF=70368744177664:=rfl;unfold ziz zw8 zdA zee
 have e1:∀ k:Nat,k<=1000->decide (x.Ag.length*k<=zF)=true:=λk hk=>by
  have:=Nat.mul_le_mul h1 hk;simp only [qe]; omega
 have e2:∀ k:Nat,k<=1000->decide (x.Items.length*k<=zF)=true:=λk hk=>by
  have:=Nat.mul_le_mul h2 hk;simp only [qe]; omega
 simp only [Wy.fin_bn,Wy.fin_k,e1 _ (by omega:24<=1000),e2 _ (by omega:56<=1000),Int.ofNat_eq_natCast,cond_true]
 rw [zbgp g _ h1 hg _ (by omega)]
 simp only [cond_true,e2 _ (by omega:56<=1000)]
 rw [zbgA g _ h2 hgi _ (by omega)]
 simp only [cond_true];cases x; rfl
theorem z8f (gx:At->Bool×At) (a:yB) (hl:a.length<=1000000) (hg:∀ t∈a,t.Fs.length<=1000000/\∀ f∈t.Fs,gx f.At=(true,f.At)):zlo gx a=(true,a):=by
 unfold zlo zAH;have:=zbgS gx a hl hg (a.length+(Int.ofNat a.length).toNat +Int.toNat (0:Int)+(0:Nat)+(1:Nat)) (by omega)
 rw [show Int.ofNat a.length=(a.length:Int) from rfl] at *
 rw [Wy.fin_bn,this]; rfl
end
theorem z1j:∀ n,
  (∀ d a,zo d a->2*d<=n->zlv n a=(true,a))/\
  (∀ d x,zc0 (zo d) x->2*d+1<=n->zk6 n x=(true,x))
 | 0=>by
  refine ⟨λd a h hd=> ?_,λd x h hd=>by omega⟩
  have:d=0:=by omega
  subst this; exact h.elim
 | n+1=>by
  obtain ⟨h1,h2⟩:=z1j n;refine ⟨λd a h hd=> ?_,λd x h hd=> ?_⟩
  ·cases d with
   | zero=>exact h.elim
   | succ d=>
    rw [zM9];exact z8f _ a h.1 λt ht=>⟨(h.2 t ht).1,λf hf=>h2 d _ ((h.2 t ht).2 f hf) (by omega)⟩
  ·rw [zGz];exact z0C _ x h.1.1 h.1.2.1 (λa ha=>h1 d a (h.2.1 a ha) (by omega)) λw hw=>h1 d _ (h.2.2 w hw).2 (by omega)
theorem zFJ {d:Nat} {a:yB} (h:zo d a) (hd:d<=100):zgG a=(true,a):=(z1j 1000).1 d a h (by omega)
def zlO (a:yB):yB×Int:=bif ze0 a then (a,0) else ([],6)
theorem zyd {d:Nat} {a:yB} (h:zo d a) (hd:d<=100) (hs:zN a<=4611686018427387904):zd7 a=(true,zlO a):=by
 unfold zd7 zCw zlO;simp only [Wy.fin_bn,Wy.fin_i,Wy.fin_k,z3Q h hd hs,zFJ h hd,cond_true];cases ze0 a <;>rfl
theorem zIW {d:Nat} {a:yB} (h:zo d a) (hd:d<=100) (hs:zN a<=4611686018427387904):zmi a=(true,zlO a):=by
 unfold zmi zXX zlO;simp only [Wy.fin_bn,Wy.fin_i,Wy.fin_k,z8U h hd hs,cond_true];cases ze0 a <;>rfl
def zcN (x:At):yB:=[⟨1,[⟨x,1⟩]⟩]
theorem zFR (x:At):(ze8 x).2=zcN x:=by
 unfold ze8 zDe;rw [At.eta]; rfl
theorem zNG (x:At):(zl5 x).2=zcN x:=by
 unfold zl5 zUu;rw [At.eta]; rfl
theorem zTG {d:Nat} {x:At} (h:zc0 (zo d) x):zo (d+1) (zcN x):=by
 refine ⟨by simp [zcN],λt ht=> ?_⟩
 simp only [zcN,qh] at ht;subst ht;refine ⟨by simp,λf hf=> ?_⟩
 simp only [qh] at hf;subst hf; exact h
theorem zZG (x:At):zN (zcN x)=2+zeR x:=by
 rw [zcN,zfq,zuD,zcR,zia];simp only [List.length_singleton]; omega
abbrev zOt:=yD×Unit×Int×Int×Unit
abbrev zyf:=yD×Unit
abbrev z2u:=yD×Int×Int×yD
abbrev zNR:=yD×Unit×Int×Unit
def ztD (l:yD) (i:Int) (k:Int) (out_:yD):Wy zOt zyf z2u:=.i (decide (k<Int.ofNat out_.length)) (.i (decide (0<=k)&&decide (k<=IntKind.i64.wrap (k+1))&&decide (IntKind.i64.wrap (k+1)<=Int.ofNat out_.length)) (.i (decide (0<=i)&&decide (i<=IntKind.i64.wrap (i+1))&&decide (IntKind.i64.wrap (i+1)<=Int.ofNat l.length)) (.bn (zrR (List.take ((IntKind.i64.wrap (k+1)).toNat - k.toNat) (List.drop k.toNat out_)) (List.take ((IntKind.i64.wrap (i+1)).toNat - i.toNat) (List.drop i.toNat l))) λr0=>.i (decide (r0<=0)) (.h (l,(),i,(IntKind.i64.wrap (k+1)),()) (out_,())) (.k (l,i,k,out_))) .d) .d) (.k (l,i,k,out_))
def zOW (x:zOt) (y:zyf):=ztD x.1 x.2.2.1 x.2.2.2.1 y.1
def zOv (n:Nat) (l:yD) (i:Int) (k:Int) (out_:yD):=zA (zOW) default n (l,(),i,k,()) (out_,())
def ztS (l:yD) (i:Int) (out_:yD):Wy zNR zyf (yD):=.i (decide (i<Int.ofNat l.length)) (.i (decide (0<=i)&&decide (i<Int.ofNat l.length)) (.i (Int.ofNat (l.getD i.toNat default).Ann.length==0) (.h (l,(),(IntKind.i64.wrap (i+1)),()) (out_,())) (.bn (zOv (l.length+i.toNat +Int.toNat 0+out_.length+1) l i 0 out_) λr2=>.i (decide ((0:Int)<=(0:Int))&&decide (0<=r2.2.2.1)&&decide (r2.2.2.1<=Int.ofNat r2.2.2.2.length)) (.i (decide ((0+(List.take (r2.2.2.1.toNat - Int.toNat 0) (List.drop (Int.toNat 0) r2.2.2.2)).length)*56<=zF)) (.i (decide (0<=r2.2.1)&&decide (r2.2.1<Int.ofNat r2.1.length)) (.i (decide ((([]++List.take (r2.2.2.1.toNat - Int.toNat 0) (List.drop (Int.toNat 0) r2.2.2.2)).length+[r2.1.getD r2.2.1.toNat default].length)*56<=zF)) (.i (decide (0<=r2.2.2.1)&&decide (r2.2.2.1<=Int.ofNat r2.2.2.2.length)&&decide (Int.ofNat r2.2.2.2.length<=Int.ofNat r2.2.2.2.length)) (.i (decide ((([]++List.take (r2.2.2.1.toNat - Int.toNat 0) (List.drop (Int.toNat 0) r2.2.2.2)++[r2.1.getD r2.2.1.toNat default]).length+(List.take ((Int.ofNat r2.2.2.2.length).toNat - r2.2.2.1.toNat) (List.drop r2.2.2.1.toNat r2.2.2.2)).length)*56<=zF)) (.h ((r2.1),(),(IntKind.i64.wrap (r2.2.1+1)),()) (([]++List.take (r2.2.2.1.toNat - Int.toNat 0) (List.drop (Int.toNat 0) r2.2.2.2)++[r2.1.getD r2.2.1.toNat default]++List.take ((Int.ofNat r2.2.2.2.length).toNat - r2.2.2.1.toNat) (List.drop r2.2.2.1.toNat r2.2.2.2)),())) .d) .d) .d) .d) .d) .d)) .d) (.k out_)
def zOw (x:zNR) (y:zyf):=ztS x.1 x.2.2.1 y.1
def zO3 (n:Nat) (l:yD) (i:Int) (out_:yD):=zA (zOw) default n (l,(),i,()) (out_,())
def zRx (l:yD):Wy0 (yD):=.bn (zO3 (l.length+Int.toNat 0+0+1) l 0 []) λr4=>.k r4
def zMc (l:yD):=(zRx l).fin default
def zLc (op:Int) (sign:Int):Wy0 (Bool):=.i (op==5) (.k (sign==0)) (.i (op==6) (.k (sign != 0)) (.i (op==7) (.k (decide (sign<0))) (.i (op==8) (.k (decide (sign<=0))) (.i (op==9) (.k (decide (sign>0))) (.i (op==10) (.k (decide (sign≥0))) (.k false))))))
def zGk (op:Int) (sign:Int):=(zLc op sign).fin default
abbrev zRw:=Int×yD×Int×Unit×Int×Unit
abbrev z4u:=Int⊕(Int×yD×Int×Value)
def zv3 (fn:Int) (items:yD) (op:Int) (i:Int) (bound:Value):Wy zRw (Value×Unit) z4u:=.i (decide (i<Int.ofNat items.length)) (.i (decide (0<=i)&&decide (i<Int.ofNat items.length)) (.bn (zgr (items.getD i.toNat default).Ann) λr0=>.i (!r0) (.k (.inl 1)) (.h (fn,items,op,(),(IntKind.i64.wrap (i+1)),()) (bound,()))) .d) (.k (.inr (fn,items,op,bound)))
def zRo (x:zRw) (y:Value×Unit):=zv3 x.1 x.2.1 x.2.2.1 x.2.2.2.2.1 y.1
def zRp (n:Nat) (fn:Int) (items:yD) (op:Int) (i:Int) (bound:Value):=zA (zRo) (.inl default) n (fn,items,op,(),i,()) (bound,())
def zVs (fn:Int) (items:yD) (op:Int) (bound:Value):Wy0 (yB×Int):=.bn (zv9 fn items op bound) λr7=>.i (!r7) (.k ([],1)) (.bn (zRp (fn.toNat +items.length+op.toNat +Int.toNat 0+1) fn items op 0 bound) λr6=>.i (isL r6) (.k ([],getL r6)) (.bn (zMc (getR r6).2.1) λr5=>.i (Int.ofNat r5.length==0) (.i ((getR r6).1==0) (.bn (zcH 0 (getR r6).2.2.2.Int) λr3=>.bn (zGk (getR r6).2.2.1 r3) λr2=>.i (r2) (.k (zVJ.2,0)) (.k ([],0))) (.k ([],0))) (.bn (zmi (zl5 (At.mk 4 (RowID.mk 0 0) [] (getR r6).1 r5 (getR r6).2.2.1 (getR r6).2.2.2)).2) λr4=>.k (r4.1,r4.2))))
def zQe (fn:Int) (items:yD) (op:Int) (bound:Value):=(zVs fn items op bound).fin default
section
variable {α β ρ τ:Type} [Inhabited τ]
theorem zNI (p:τ->Bool):∀ l:List τ,l.take (l.takeWhile p).length=l.takeWhile p
 | []=>rfl
 | x::r=>by
  rw [List.takeWhile_cons];cases p x with
  | true=>simp [zNI p r]
  | false=>simp
theorem zO0 (p:τ->Bool):∀ l:List τ,l.drop (l.takeWhile p).length=l.dropWhile p
 | []=>rfl
 | x::r=>by
  rw [List.takeWhile_cons,List.dropWhile_cons];cases p x with
  | true=>simp [zO0 p r]
  | false=>simp
theorem zbdi (p:τ->Bool) (l:List τ):(l.takeWhile p).length<=l.length:=(List.takeWhile_prefix p).length_le
theorem z3S {W:α->β->Wy α β ρ} {z:ρ} (l:List τ) (p:τ->Bool) (ex:Nat->α) (ey:Nat->β) (res:Nat->ρ)
  (h:∀ i,i<l.length->∀ (H:α->β->Bool×ρ) K D,(W (ex i) (ey i)).ev H K D=bif p (l.getD i default) then H (ex (i+1)) (ey (i+1)) else K (res i))
  (he:∀ (H:α->β->Bool×ρ) K D,(W (ex l.length) (ey l.length)).ev H K D=K (res l.length)):
  ∀ n i,l.length<i+n->i<=l.length->zA W z n (ex i) (ey i)=(true,res (i+((l.drop i).takeWhile p).length))
 | 0,i,h1,h2=>by omega
 | n+1,i,h1,h2=>by
  show (W (ex i) (ey i)).ev (zA W z n) (λr=>(true,r)) (false,z)=_
  by_cases hi:i<l.length
  ·rw [h i hi,zbf hi,List.takeWhile_cons];cases hp:p (l.getD i default) with
   | false=>simp
   | true=>
    rw [cond_true,z3S l p ex ey res h he n (i+1) (by omega) (by omega)]
    simp only [if_true,qf];congr 2; omega
  ·have:i=l.length:=by omega
   subst this;rw [he,zce hi]; rfl
theorem zHt {W:α->β->Wy α β ρ} {z:ρ} (l:List τ) (p:τ->Bool) (ex:Nat->α) (ey:Nat->β) (res:Nat->ρ)
  (h:∀ i,i<l.length->∀ (H:α->β->Bool×ρ) K D,(W (ex i) (ey i)).ev H K D=bif p (l.getD i default) then H (ex (i+1)) (ey (i+1)) else K (res i))
  (he:∀ (H:α->β->Bool×ρ) K D,(W (ex l.length) (ey l.length)).ev H K D=K (res l.length)) (n:Nat) (hn:l.length<n):
  zA W z n (ex 0) (ey 0)=(true,res (l.takeWhile p).length):=by
 have:=z3S (z:=z) l p ex ey res h he n 0 (by omega) (by omega)
 simpa using this
def zPp (p:τ->Bool) (x:τ) (l:List τ):List τ:=l.takeWhile p++x::l.dropWhile p
theorem z3H (p:τ->Bool) (x y:τ) (r:List τ):zPp p x (y::r)=bif p y then y::zPp p x r else x::y::r:=by
 unfold zPp;rw [List.takeWhile_cons,List.dropWhile_cons];cases p y <;>simp
theorem zFS (p:τ->Bool) (x:τ):∀ l:List τ,(zPp p x l).Perm (x::l)
 | []=>.refl _
 | y::r=>by
  rw [z3H];cases p y
  ·exact .refl _
  ·exact ((zFS p x r).cons y).trans (.swap x y r)
abbrev Srt (key:τ->TT) (l:List τ):Prop:=l.Pairwise λx y=>zbb (key x) (key y)<=0
theorem z7F (key:τ->TT) (x:τ):∀ l:List τ,Srt key l->Srt key (zPp (λy=>decide (zbb (key y) (key x)<=0)) x l)
 | [],_=>by simp [zPp]
 | y::r,h=>by
  have h:=qi.1 h;rw [z3H];by_cases hp:zbb (key y) (key x)<=0
  ·rw [decide_eq_true hp];refine qi.2 ⟨λz hz=> ?_,z7F key x r h.2⟩
   rcases qd.1 ((zFS _ x r).mem_iff.1 hz) with rfl | hz
   ·exact hp
   ·exact h.1 z hz
  ·rw [decide_eq_false hp];have hxy:zbb (key x) (key y)<=0:=by have:=zfE (key x) (key y); omega
   refine qi.2 ⟨λz hz=> ?_,qi.2 h⟩
   rcases qd.1 hz with rfl | hz
   ·exact hxy
   ·exact zrC _ _ _ hxy (h.1 z hz)
end
theorem zNL {τ:Type} (l:List τ) (k:Nat):List.take (k - Int.toNat 0) (List.drop (Int.toNat 0) l)=l.take k:=by simp
theorem zwb {τ:Type} (l:List τ) (k:Nat):List.take ((Int.ofNat l.length).toNat - k) (List.drop k l)=l.drop k:=by
 simp only [Int.ofNat_eq_natCast,Int.toNat_natCast];rw [List.take_of_length_le (by simp)]
theorem z6j (n:Nat):(n==0)= !decide (0<n):=by cases n <;>simp
def zlB (w:Wd):Bool:=decide (0<w.Ann.length)
def zdJ (l:yD):yD:=zm4 z6 (l.filter zlB)
theorem zIJ {d:Nat} {l:yD} (hl:l.length<=1000000) (h:∀ w∈l,zo d w.Ann) (hd:d<=99):SortOK z6 l:=by
 have e:∀ x∈l,∀ y,z6 x y=(true,zbb (zbc x) (zbc y)):=λx hx y=>zjf (h x hx) hd y
 refine ⟨by omega,λx hx y _=>by rw [e x hx],λx hx=> ?_,λx hx y hy z hz h1 h2=> ?_,λx hx y hy z hz h1 h2=> ?_,λx hx y hy h1 h2=> ?_⟩
 ·rw [e x hx,zBc]; omega
 ·rw [e x hx] at h1 ⊢; rw [e y hy] at h2;have h3:=zrC _ _ _ (show zbb (zbc x) (zbc y)<=0 by simp only at h1; omega) (show zbb (zbc y) (zbc z)<=0 by simp only at h2; omega)
  simp only at h1 h2 ⊢;by_cases e0:zbb (zbc x) (zbc z)=0
  ·have:=zry _ _ e0;rw [<- this,zfE (zbc x) (zbc y)] at h2;omega
  ·omega
 ·rw [e x hx] at h1 ⊢; rw [e y hy] at h2;simp only at h1 h2 ⊢;have a1:=zfE (zbc x) (zbc y);have a2:=zfE (zbc y) (zbc z);have a3:=zfE (zbc x) (zbc z);have:=zrC (zbc z) (zbc y) (zbc x) (by omega) (by omega)
  omega
 ·rw [e x hx] at h1; rw [e y hy] at h2;simp only at h1 h2;have a1:=zfE (zbc x) (zbc y);exact zZW _ _ (zry _ _ (by omega))
theorem zbdT {d:Nat} (l:yD) (hl:l.length<=1000000) (h:∀ w∈l,zo d w.Ann) (hd:d<=99) (n:Nat) (hn:l.length<n):zDf n l l.length 0 []=(true,l.filter zlB):=by
 have hreach:zF=70368744177664:=rfl;have hfl:∀ i,(List.filter zlB (l.take i)).length<=1000000:=λi=>Nat.le_trans (List.length_filter_le _ _) (Nat.le_trans (by simp; omega) hl)
 have:=zcY (W:=zwM) (z:=default) l.length (λi=>((),l,(l.length:Int),(i:Int),())) (λi=>((l.take i).filter zlB,())) (λ_=>true) default (l.filter zlB)
  (λi hi H K D=>by
   show (zlm l l.length i ((l.take i).filter zlB)).ev H K D=_;unfold zlm;have hb2:decide (((List.filter zlB (l.take i)).length+1)*56<=zF)=true:=by have:=hfl i; simp only [qe]; omega
   have hgt:decide (((l.getD i default).Ann.length:Int)>0)=zlB (l.getD i default):=zjD _ 0;simp only [Wy.ev_i,Wy.ev_k,Wy.ev_h,Wy.ev_bn,Wy.ev_d,tT,hi,zFJ (h _ (zn hi)) (by omega:d<=100),hgt,List.length_singleton,hb2]
   rw [zD (by omega),zjs hi,List.filter_append,List.filter_cons]
   cases zlB (l.getD i default) with
   | true=>simp
   | false=>simp)
  (λH K D=>by
   show (zlm l l.length l.length ((l.take l.length).filter zlB)).ev H K D=_;unfold zlm;simp only [Wy.ev_i,Wy.ev_k,tT,Nat.lt_irrefl,List.take_length]) n hn
 rw [show zeo (λ_=>true) l.length 0=true from zdP.2 λ_ _ _=>rfl] at this
 exact this
theorem z6r {d:Nat} {l:yD} (h:∀ w∈l,zo d w.Ann) (hd:d<=99) (h20:l.length<20):z8 l=(true,zm4 z6 l):=by
 have ok:SortOK z6 l:=zIJ (d:=d) (by omega) h hd
 unfold z8;simp only [decide_eq_true ok,decide_eq_true h20,Bool.and_self]
theorem zbc2 {d:Nat} (l:yD) (hl:l.length<=1000000) (h:∀ w∈l,zo d w.Ann) (hd:d<=99) (h20:(l.filter zlB).length<20):zqi l=(true,zdJ l):=by
 unfold zqi zFd zdJ;have:=zbdT l hl h hd (l.length+(Int.ofNat l.length).toNat +Int.toNat (0:Int)+(0:Nat)+(1:Nat)) (by omega)
 rw [show Int.ofNat l.length=(l.length:Int) from rfl] at *
 rw [Wy.fin_bn,this];simp only [Wy.fin_bn,Wy.fin_k,cond_true,z6r (λw hw=>h w (List.mem_filter.1 hw).1) hd h20]
def zwN (w:Wd) (out:yD):yD:=bif zlB w then zPp (λy=>decide (zbb (zbc y) (zbc w)<=0)) w out else out
theorem zbcN {d:Nat} (l:yD) (i:Nat) (hi:i<l.length) (hl:l.length<=1000000) (out:yD) (ho:out.length<=1000000) (h:∀ w∈out,zo d w.Ann) (hd:d<=99) (n:Nat) (hn:out.length<n):
  zOv n l i 0 out=(true,(l,(i:Int),(((out.takeWhile λy=>decide (zbb (zbc y) (zbc (l.getD i default))<=0)).length:Nat):Int),out)):=by
 exact zHt (W:=zOW) (z:=default) out (λy=>decide (zbb (zbc y) (zbc (l.getD i default))<=0)) (λk=>(l,(),(i:Int),(k:Int),())) (λ_=>(out,())) (λk=>(l,(i:Int),(k:Int),out))
  (λk hk H K D=>by
   show (ztD l i k out).ev H K D=_;unfold ztD;have e1:(decide ((k:Int)<=((k+1:Nat):Int))&&decide (((k+1:Nat):Int)<=Int.ofNat out.length))=true:=by simp; try omega
   have e2:(decide ((i:Int)<=((i+1:Nat):Int))&&decide (((i+1:Nat):Int)<=Int.ofNat l.length))=true:=by simp; try omega
   have e3:decide ((k:Int)<Int.ofNat out.length)=true:=by simp [hk]
   simp only [Wy.ev_i,Wy.ev_k,Wy.ev_h,Wy.ev_bn,Wy.ev_d,zD (show k<4611686018427387904 by omega),zD (show i<4611686018427387904 by omega),e1,e2,e3,zea,Bool.true_and,cond_true,Int.toNat_natCast,show k+1 - k=1 by omega,show i+1 - i=1 by omega,z5F _ _ hi,z5F _ _ hk]
   rw [zAV (d:=d) (by simp) (λw hw=>by
    rw [qh] at hw; subst hw; exact h _ (zn hk)) hd,zl0,zl0]
   simp only [List.map,zbdo,cond_true])
  (λH K D=>by
   show (ztD l i out.length out).ev H K D=_;unfold ztD;have e3:decide ((out.length:Int)<Int.ofNat out.length)=false:=by simp
   simp only [Wy.ev_i,Wy.ev_k,e3,cond_false]) n hn
theorem zbbq (w:Wd) (out:yD):(zwN w out).length<=out.length+1:=by
 unfold zwN;cases zlB w with
 | false=>simp
 | true=>simp only [cond_true]; rw [(zFS _ w out).length_eq]; simp
theorem zba9 {w y:Wd} {out:yD} (h:y∈zwN w out):y=w\/y∈out:=by
 unfold zwN at h;cases hb:zlB w with
 | false=>rw [hb] at h; exact .inr h
 | true=>rw [hb] at h; exact qd.1 ((zFS _ w out).mem_iff.1 h)
theorem zbb7 {d:Nat} (l:yD) (hl:l.length<=1000000) (h:∀ w∈l,zo d w.Ann) (hd:d<=99) (n:Nat) (hn:l.length<n):zO3 n l 0 []=(true,l.foldl (λout w=>zwN w out) []):=by
 have hreach:zF=70368744177664:=rfl
 have:=zcP (W:=zOw) (z:=default) (l:=l) (λi (out:yD)=>(l,(),(i:Int),())) (λ_ out=>(out,())) (λw out=>.inl (zwN w out)) (λout=>out) (λi out=>out.length<=i/\∀ w∈out,zo d w.Ann)
  (λi out hi hI=>.inl ⟨_,rfl,⟨by have:=zbbq (l.getD i default) out; omega,λw hw=>by
    rcases zba9 hw with rfl | hw
    ·exact h _ (zn hi)
    ·exact hI.2 w hw⟩,λH K D=>by
   show (ztS l i out).ev H K D=_;unfold ztS;have e0:((l.getD i default).Ann.length==0)= !zlB (l.getD i default):=z6j _;have e3:decide ((i:Int)<Int.ofNat l.length)=true:=by simp [hi]
   simp only [Wy.ev_i,Wy.ev_k,Wy.ev_h,Wy.ev_bn,Wy.ev_d,e3,zea,Bool.and_self,cond_true,Int.toNat_natCast,show (Int.ofNat (l.getD i default).Ann.length==(0:Int))=((l.getD i default).Ann.length==0) from zrA _ 0,e0]
   rw [zbcN l i hi hl out (by omega) hI.2 hd _ (by omega)]
   simp only [cond_true,zNL,zwb,List.nil_append,Int.toNat_natCast,e3,zea,Bool.and_self,Int.le_refl,decide_true,Bool.true_and,Bool.and_true];have q1:=zbdi (λy=>decide (zbb (zbc y) (zbc (l.getD i default))<=0)) out
   have q2:decide (((out.takeWhile λy=>decide (zbb (zbc y) (zbc (l.getD i default))<=0)).length:Int)<=Int.ofNat out.length)=true:=by simp only [qe,Int.ofNat_eq_natCast]; omega
   have hb1:decide ((0+(out.take (out.takeWhile λy=>decide (zbb (zbc y) (zbc (l.getD i default))<=0)).length).length)*56<=zF)=true:=by simp only [qe,List.length_take]; omega
   have hb2:decide (((out.take (out.takeWhile λy=>decide (zbb (zbc y) (zbc (l.getD i default))<=0)).length).length+[l.getD i default].length)*56<=zF)=true:=by simp only [qe,List.length_take,List.length_singleton]; omega
   have hb3:decide (((out.take (out.takeWhile λy=>decide (zbb (zbc y) (zbc (l.getD i default))<=0)).length++[l.getD i default]).length+(out.drop (out.takeWhile λy=>decide (zbb (zbc y) (zbc (l.getD i default))<=0)).length).length)*56<=zF)=true:=by simp only [qe,qg,List.length_take,List.length_singleton,List.length_drop]; omega
   simp only [q2,hb1,hb2,hb3,cond_true];rw [zD (by omega),zNI,zO0]
   unfold zwN zPp;cases zlB (l.getD i default) <;>simp⟩)
  (λout hI H K D=>by
   show (ztS l l.length out).ev H K D=_;unfold ztS;have e3:decide ((l.length:Int)<Int.ofNat l.length)=false:=by simp
   simp only [Wy.ev_i,Wy.ev_k,e3,cond_false]) n 0 [] (by omega) (by omega) ⟨by simp,λw hw=>by cases hw⟩
 rw [List.drop_zero,zcO] at this;exact this
theorem z1r:∀ (l out:yD),(l.foldl (λout w=>zwN w out) out).Perm (l.filter zlB++out)/\(Srt zbc out->Srt zbc (l.foldl (λout w=>zwN w out) out))
 | [],out=>⟨.refl _,λh=>h⟩
 | w::r,out=>by
  obtain ⟨h1,h2⟩:=z1r r (zwN w out);rw [List.foldl_cons,List.filter_cons];cases hb:zlB w with
  | false=>
   have e:zwN w out=out:=by unfold zwN; rw [hb]; rfl
   rw [e] at h1 h2 ⊢;exact ⟨by simpa using h1,h2⟩
  | true=>
   have e:zwN w out=zPp (λy=>decide (zbb (zbc y) (zbc w)<=0)) w out:=by unfold zwN; rw [hb]; rfl
   rw [e] at h1 h2 ⊢;refine ⟨?_,λh=>h2 (z7F zbc w out h)⟩
   simp only [if_true,List.cons_append];exact h1.trans (((zFS _ w out).append_left _).trans List.perm_middle)
theorem zbbK {d:Nat} (l:yD) (hl:l.length<=1000000) (h:∀ w∈l,zo d w.Ann) (hd:d<=99):zMc l=(true,zdJ l):=by
 unfold zMc zRx;rw [Wy.fin_bn,zbb7 l hl h hd _ (by omega)]
 simp only [cond_true,Wy.fin_k];congr 1;obtain ⟨h1,h2⟩:=z1r l [];rw [List.append_nil] at h1;have hm:∀ w∈l.filter zlB,zo d w.Ann:=λw hw=>h w (List.mem_filter.1 hw).1
 refine (zIJ (d:=d) (Nat.le_trans (List.length_filter_le _ _) hl) hm hd).unique h1 ?_;refine (h2 .nil).imp_of_mem λ{x y} hx hy hxy=> ?_
 rw [zjf (hm y (h1.mem_iff.1 hy)) hd,zfE (zbc x) (zbc y)];simp only; omega
def zL4 (op sign:Int):Bool:=bif op==5 then sign==0 else bif op==6 then sign != 0 else bif op==7 then decide (sign<0) else bif op==8 then decide (sign<=0) else bif op==9 then decide (sign>0) else decide (sign≥0)
theorem zbb9 (op sign:Int):zpY op sign=(true,zL4 op sign):=by
 unfold zpY zFK zL4;simp only [Wy.fin_i,Wy.fin_k];cases op==5 <;>cases op==6 <;>cases op==7 <;>cases op==8 <;>cases op==9 <;>rfl
theorem zbas {op sign:Int} (h1:5<=op) (h2:op<=10):zGk op sign=(true,zL4 op sign):=by
 unfold zGk zLc zL4;simp only [Wy.fin_i,Wy.fin_k,zga];by_cases a1:op=5
 ·simp [a1]
 by_cases a2:op=6
 ·simp [a2]
 by_cases a3:op=7
 ·simp [a3]
 by_cases a4:op=8
 ·simp [a4]
 by_cases a5:op=9
 ·simp [a5]
 have a6:op=10:=by omega
 simp [a6]
def zNf (fn:Int) (l:yD) (op:Int) (b:Value):At:=⟨4,⟨0,0⟩,[],fn,l,op,b⟩
def zwR (fn:Int) (items:yD) (op:Int) (b:Value):yB×Int:=
 bif !(zzh fn items op b&&items.all λw=>zX w.Ann) then ([],1) else
 bif decide (0<(zdJ items).length) then zlO (zcN (zNf fn (zdJ items) op b)) else
 bif fn==0&&zL4 op (zdX 0 b.Int) then ([⟨1,[]⟩],0) else ([],0)
theorem zHr {l:yD} {w:Wd} (h:w∈zdJ l):w∈l/\w.Ann≠[]:=by
 have:=(zoV _ _).mem_iff.1 h;obtain ⟨h1,h2⟩:=List.mem_filter.1 this;refine ⟨h1,λe=> ?_⟩
 rw [zlB,e] at h2; simp at h2
theorem z1n (l:yD):(zdJ l).length=(l.filter zlB).length:=(zoV _ _).length_eq
theorem zVm {B:Nat}:∀ l:yD,(∀ w∈l,zN w.Ann<=B)->zc3 l<=l.length*(B+1)
 | [],_=>by rw [zfe]; simp
 | w::r,h=>by
  rw [zhS,qf];have h1:=h w (by simp)
  have h2:=zVm r λw hw=>h w (by simp [hw])
  rw [Nat.add_mul]; omega
theorem zJ9 {fn:Int} {l:yD} {op:Int} {b:Value} (hl:l.length<=1000000) (hf:zzh fn l op b=true) (hv:(l.all λw=>zX w.Ann)=true):zo 10 (zcN (zNf fn (zdJ l) op b))/\zN (zcN (zNf fn (zdJ l) op b))<=4611686018427387904:=by
 obtain ⟨_,hb,hit⟩:=zrY hf;have hvv:∀ w∈l,zX w.Ann=true:=λw hw=>List.all_eq_true.1 hv w hw
 have hlen:(zdJ l).length<=1000000:=by rw [z1n]; exact Nat.le_trans (List.length_filter_le _ _) hl
 constructor
 ·refine zTG ⟨⟨by simp [zNf],hlen,by have:=zuA hb; simp only [zNf]; omega⟩,λy hy=>(by cases hy),λw hw=> ?_⟩
  have hm:=(zHr hw).1;exact ⟨by have:=zuA (hit w hm).1; omega,(zeJ (hvv w hm)).1⟩
 ·rw [zZG,zgS];have h1:zc3 (zdJ l)<=(zdJ l).length*(4096+1):=zVm _ λw hw=>(zeJ (hvv w (zHr hw).1)).2.1
  show 2+(zeM []+zc3 (zdJ l))<=_;rw [zgq];have:=Nat.mul_le_mul hlen (Nat.le_refl (4096+1));omega
theorem zben {d:Nat} (l:yD) (hl:l.length<=1000000) (h:∀ w∈l,zo d w.Ann/\zN w.Ann<=4611686018427387904) (hd:d<=99):zb6 l=(true, !l.all λw=>zX w.Ann):=by
 unfold zb6 zgy;have:zdc l=IG (λ(_:Unit) x=>zmM x) (l.length+(Int.ofNat l.length).toNat +Int.toNat (0:Int)+(1:Nat)) () l:=rfl
 rw [zj4 (P:=λw=> !zX w.Ann) (this.trans (zH3 _ _ _ _ _ (by omega) (λx hx=>by
  unfold zmM zBW;rw [Wy.fin_bn,z3G (h x hx).1 (by omega) (h x hx).2]; rfl) (by omega)))]
 simp [List.all_eq_not_any_not]
theorem zbdZ {d:Nat} (fn:Int) (l:yD) (op:Int) (b:Value) (hl:l.length<=1000000) (h:∀ w∈l,zo d w.Ann/\zN w.Ann<=4611686018427387904) (hd:d<=99) (h20:(l.filter zlB).length<20):
  zm9 fn l op b=(true,zwR fn l op b):=by
 unfold zm9 zGR zwR;have hI:=zbc2 l hl (λw hw=>(h w hw).1) hd h20
 have hgt:decide (Int.ofNat (zdJ l).length>0)=decide (0<(zdJ l).length):=zjD _ 0;simp only [Wy.fin_bn,Wy.fin_i,Wy.fin_k,z0f fn l op b hl,zben l hl h hd,hI,cond_true,hgt];cases hf:zzh fn l op b with
 | false=>rfl
 | true=>
  cases hv:l.all λw=>zX w.Ann with
  | false=>rfl
  | true=>
   simp only [Bool.not_true,cond_false,Bool.and_self];rw [zFR];have hx:(⟨4,⟨0,0⟩,[],fn,zdJ l,op,b⟩:At)=zNf fn (zdJ l) op b:=rfl;rw [hx,zyd (zJ9 hl hf hv).1 (by omega) (zJ9 hl hf hv).2]
   cases decide (0<(zdJ l).length) with
   | true=>rfl
   | false=>
    simp only [cond_false,zuF,zbb9,cond_true];cases fn==0 with
    | false=>rfl
    | true=>
     cases zL4 op (zdX 0 b.Int) <;>rfl
theorem zbc7 {d:Nat} (fn:Int) (l:yD) (op:Int) (b:Value) (hl:l.length<=1000000) (h:∀ w∈l,zo d w.Ann/\zN w.Ann<=4611686018427387904) (hd:d<=99):
  zQe fn l op b=(true,zwR fn l op b):=by
 unfold zQe zVs zwR;have hI:=zbbK l hl (λw hw=>(h w hw).1) hd
 have hgt:decide (0<(zdJ l).length)= !((zdJ l).length==0):=by rw [z6j,Bool.not_not]
 have hL:zRp (fn.toNat +l.length+op.toNat +Int.toNat (0:Int)+(1:Nat)) fn l op (0:Int) b=(true,bif l.all λw=>zX w.Ann then .inr (fn,l,op,b) else .inl 1):=by
  have:=zcY (W:=zRo) (z:=.inl default) l.length (λi=>(fn,l,op,(),(i:Int),())) (λ_=>(b,())) (λi=>(λw:Wd=>zX w.Ann) (l.getD i default)) (.inl 1) (.inr (fn,l,op,b))
   (λi hi H K D=>by
    show (zv3 fn l op i b).ev H K D=_;unfold zv3;have hx:=h _ (zn hi);simp only [Wy.ev_i,Wy.ev_k,Wy.ev_h,Wy.ev_bn,Wy.ev_d,tT,hi,z0R hx.1 (by omega) hx.2]
    rw [zD (by omega)]
    cases zX (l.getD i default).Ann <;>rfl)
   (λH K D=>by
    show (zv3 fn l op l.length b).ev H K D=_;unfold zv3;simp only [Wy.ev_i,Wy.ev_k,tT,Nat.lt_irrefl]) (fn.toNat +l.length+op.toNat +Int.toNat (0:Int)+(1:Nat)) (by omega)
  rw [zxq (λw:Wd=>zX w.Ann)] at this
  exact this
 simp only [Wy.fin_bn,Wy.fin_i,Wy.fin_k,z5X fn l op b hl,hL,cond_true,hgt];cases hf:zzh fn l op b with
 | false=>rfl
 | true=>
  cases hv:l.all λw=>zX w.Ann with
  | false=>rfl
  | true=>
   simp only [Bool.not_true,cond_false,cond_true,Bool.and_self,isL,getR,hI];rw [show (Int.ofNat (zdJ l).length==(0:Int))=((zdJ l).length==0) from zrA _ 0,zNG]
   have hx:(⟨4,⟨0,0⟩,[],fn,zdJ l,op,b⟩:At)=zNf fn (zdJ l) op b:=rfl;rw [hx,zIW (zJ9 hl hf hv).1 (by omega) (zJ9 hl hf hv).2]
   cases ((zdJ l).length==0) with
   | false=>rfl
   | true=>
    obtain ⟨⟨_,_,o1,o2⟩,_⟩:=zrY hf;simp only [cond_false,Bool.not_true,znc,zbas o1 o2,cond_true];cases fn==0 with
    | false=>rfl
    | true=>
     cases zL4 op (zdX 0 b.Int) <;>rfl
abbrev zLy:=yC×Unit×Int×Unit
abbrev z0z:=yC×Int×Fc
def zrM (l:yC) (i:Int) (f:Fc):Wy zLy (Fc×Unit) z0z:=.i (decide (i<Int.ofNat l.length)) (.i (decide (0<=i)&&decide (i<Int.ofNat l.length)) (.bn (zkJ (At.mk (l.getD i.toNat default).At.Kind (l.getD i.toNat default).At.Row (l.getD i.toNat default).At.Ag (l.getD i.toNat default).At.Func (l.getD i.toNat default).At.Items (l.getD i.toNat default).At.Op (l.getD i.toNat default).At.Bd) (At.mk f.At.Kind f.At.Row f.At.Ag f.At.Func f.At.Items f.At.Op f.At.Bd)) λr0=>.i (decide (r0<0)) (.h (l,(),(IntKind.i64.wrap (i+1)),()) (f,())) (.k (l,i,f))) .d) (.k (l,i,f))
def zLk (x:zLy) (y:Fc×Unit):=zrM x.1 x.2.2.1 y.1
def zLE (n:Nat) (l:yC) (i:Int) (f:Fc):=zA (zLk) default n (l,(),i,()) (f,())
def zNq (l:yC) (f:Fc):Wy0 (yC):=.bn (zLE (l.length+Int.toNat 0+f.At.Ag.length+f.At.Items.length+1) l 0 (FO.mk (At.mk f.At.Kind f.At.Row f.At.Ag f.At.Func f.At.Items f.At.Op f.At.Bd) f.Exp)) λr3=>.i (decide ((0:Int)<=(0:Int))&&decide (0<=r3.2.1)&&decide (r3.2.1<=Int.ofNat r3.1.length)) (.i (decide ((0+(List.take (r3.2.1.toNat - Int.toNat 0) (List.drop (Int.toNat 0) r3.1)).length)*128<=zF)) (.i (decide (r3.2.1<Int.ofNat r3.1.length)) (.i (decide (0<=r3.2.1)&&decide (r3.2.1<Int.ofNat r3.1.length)) (.bn (zkJ (At.mk (r3.1.getD r3.2.1.toNat default).At.Kind (r3.1.getD r3.2.1.toNat default).At.Row (r3.1.getD r3.2.1.toNat default).At.Ag (r3.1.getD r3.2.1.toNat default).At.Func (r3.1.getD r3.2.1.toNat default).At.Items (r3.1.getD r3.2.1.toNat default).At.Op (r3.1.getD r3.2.1.toNat default).At.Bd) (At.mk r3.2.2.At.Kind r3.2.2.At.Row r3.2.2.At.Ag r3.2.2.At.Func r3.2.2.At.Items r3.2.2.At.Op r3.2.2.At.Bd)) λr2=>.i (r2==0) (.i (decide (r3.2.2.At.Kind<3)) (.i (decide (0<=r3.2.1)&&decide (r3.2.1<Int.ofNat r3.1.length)) (.i (decide ((([]++List.take (r3.2.1.toNat - Int.toNat 0) (List.drop (Int.toNat 0) r3.1)).length+[FO.mk (At.mk r3.2.2.At.Kind r3.2.2.At.Row r3.2.2.At.Ag r3.2.2.At.Func r3.2.2.At.Items r3.2.2.At.Op r3.2.2.At.Bd) (IntKind.i64.wrap ((r3.1.getD r3.2.1.toNat default).Exp+r3.2.2.Exp))].length)*128<=zF)) (.i (decide (0<=IntKind.i64.wrap (r3.2.1+1))&&decide (IntKind.i64.wrap (r3.2.1+1)<=Int.ofNat r3.1.length)&&decide (Int.ofNat r3.1.length<=Int.ofNat r3.1.length)) (.i (decide ((([]++List.take (r3.2.1.toNat - Int.toNat 0) (List.drop (Int.toNat 0) r3.1)++[FO.mk (At.mk r3.2.2.At.Kind r3.2.2.At.Row r3.2.2.At.Ag r3.2.2.At.Func r3.2.2.At.Items r3.2.2.At.Op r3.2.2.At.Bd) (IntKind.i64.wrap ((r3.1.getD r3.2.1.toNat default).Exp+r3.2.2.Exp))]).length+(List.take ((Int.ofNat r3.1.length).toNat - (IntKind.i64.wrap (r3.2.1+1)).toNat) (List.drop (IntKind.i64.wrap (r3.2.1+1)).toNat r3.1)).length)*128<=zF)) (.k ([]++List.take (r3.2.1.toNat - Int.toNat 0) (List.drop (Int.toNat 0) r3.1)++[FO.mk (At.mk r3.2.2.At.Kind r3.2.2.At.Row r3.2.2.At.Ag r3.2.2.At.Func r3.2.2.At.Items r3.2.2.At.Op r3.2.2.At.Bd) (IntKind.i64.wrap ((r3.1.getD r3.2.1.toNat default).Exp+r3.2.2.Exp))]++List.take ((Int.ofNat r3.1.length).toNat - (IntKind.i64.wrap (r3.2.1+1)).toNat) (List.drop (IntKind.i64.wrap (r3.2.1+1)).toNat r3.1))) .d) .d) .d) .d) (.i (decide ((([]++List.take (r3.2.1.toNat - Int.toNat 0) (List.drop (Int.toNat 0) r3.1)).length+[FO.mk (At.mk r3.2.2.At.Kind r3.2.2.At.Row r3.2.2.At.Ag r3.2.2.At.Func r3.2.2.At.Items r3.2.2.At.Op r3.2.2.At.Bd) r3.2.2.Exp].length)*128<=zF)) (.i (decide (0<=IntKind.i64.wrap (r3.2.1+1))&&decide (IntKind.i64.wrap (r3.2.1+1)<=Int.ofNat r3.1.length)&&decide (Int.ofNat r3.1.length<=Int.ofNat r3.1.length)) (.i (decide ((([]++List.take (r3.2.1.toNat - Int.toNat 0) (List.drop (Int.toNat 0) r3.1)++[FO.mk (At.mk r3.2.2.At.Kind r3.2.2.At.Row r3.2.2.At.Ag r3.2.2.At.Func r3.2.2.At.Items r3.2.2.At.Op r3.2.2.At.Bd) r3.2.2.Exp]).length+(List.take ((Int.ofNat r3.1.length).toNat - (IntKind.i64.wrap (r3.2.1+1)).toNat) (List.drop (IntKind.i64.wrap (r3.2.1+1)).toNat r3.1)).length)*128<=zF)) (.k ([]++List.take (r3.2.1.toNat - Int.toNat 0) (List.drop (Int.toNat 0) r3.1)++[FO.mk (At.mk r3.2.2.At.Kind r3.2.2.At.Row r3.2.2.At.Ag r3.2.2.At.Func r3.2.2.At.Items r3.2.2.At.Op r3.2.2.At.Bd) r3.2.2.Exp]++List.take ((Int.ofNat r3.1.length).toNat - (IntKind.i64.wrap (r3.2.1+1)).toNat) (List.drop (IntKind.i64.wrap (r3.2.1+1)).toNat r3.1))) .d) .d) .d)) (.i (decide ((([]++List.take (r3.2.1.toNat - Int.toNat 0) (List.drop (Int.toNat 0) r3.1)).length+[FO.mk (At.mk r3.2.2.At.Kind r3.2.2.At.Row r3.2.2.At.Ag r3.2.2.At.Func r3.2.2.At.Items r3.2.2.At.Op r3.2.2.At.Bd) r3.2.2.Exp].length)*128<=zF)) (.i (decide (0<=r3.2.1)&&decide (r3.2.1<=Int.ofNat r3.1.length)&&decide (Int.ofNat r3.1.length<=Int.ofNat r3.1.length)) (.i (decide ((([]++List.take (r3.2.1.toNat - Int.toNat 0) (List.drop (Int.toNat 0) r3.1)++[FO.mk (At.mk r3.2.2.At.Kind r3.2.2.At.Row r3.2.2.At.Ag r3.2.2.At.Func r3.2.2.At.Items r3.2.2.At.Op r3.2.2.At.Bd) r3.2.2.Exp]).length+(List.take ((Int.ofNat r3.1.length).toNat - r3.2.1.toNat) (List.drop r3.2.1.toNat r3.1)).length)*128<=zF)) (.k ([]++List.take (r3.2.1.toNat - Int.toNat 0) (List.drop (Int.toNat 0) r3.1)++[FO.mk (At.mk r3.2.2.At.Kind r3.2.2.At.Row r3.2.2.At.Ag r3.2.2.At.Func r3.2.2.At.Items r3.2.2.At.Op r3.2.2.At.Bd) r3.2.2.Exp]++List.take ((Int.ofNat r3.1.length).toNat - r3.2.1.toNat) (List.drop r3.2.1.toNat r3.1))) .d) .d) .d)) .d) (.i (decide ((([]++List.take (r3.2.1.toNat - Int.toNat 0) (List.drop (Int.toNat 0) r3.1)).length+[FO.mk (At.mk r3.2.2.At.Kind r3.2.2.At.Row r3.2.2.At.Ag r3.2.2.At.Func r3.2.2.At.Items r3.2.2.At.Op r3.2.2.At.Bd) r3.2.2.Exp].length)*128<=zF)) (.i (decide (0<=r3.2.1)&&decide (r3.2.1<=Int.ofNat r3.1.length)&&decide (Int.ofNat r3.1.length<=Int.ofNat r3.1.length)) (.i (decide ((([]++List.take (r3.2.1.toNat - Int.toNat 0) (List.drop (Int.toNat 0) r3.1)++[FO.mk (At.mk r3.2.2.At.Kind r3.2.2.At.Row r3.2.2.At.Ag r3.2.2.At.Func r3.2.2.At.Items r3.2.2.At.Op r3.2.2.At.Bd) r3.2.2.Exp]).length+(List.take ((Int.ofNat r3.1.length).toNat - r3.2.1.toNat) (List.drop r3.2.1.toNat r3.1)).length)*128<=zF)) (.k ([]++List.take (r3.2.1.toNat - Int.toNat 0) (List.drop (Int.toNat 0) r3.1)++[FO.mk (At.mk r3.2.2.At.Kind r3.2.2.At.Row r3.2.2.At.Ag r3.2.2.At.Func r3.2.2.At.Items r3.2.2.At.Op r3.2.2.At.Bd) r3.2.2.Exp]++List.take ((Int.ofNat r3.1.length).toNat - r3.2.1.toNat) (List.drop r3.2.1.toNat r3.1))) .d) .d) .d)) .d) .d
def zJe (l:yC) (f:Fc):=(zNq l f).fin default
def zRL (a:Int) (b:Int):Wy0 (Int):=.i (!decide (b=0)) (.i (decide (a>IntKind.i64.wrap (Int.tdiv 1152921504606846976 b))) (.k 1152921504606846976) (.k (IntKind.i64.wrap (a*b)))) .d
def zMC (a:Int) (b:Int):=(zRL a b).fin default
abbrev zIA:=yB×yB×Unit×Int×Int×Unit×Int×Unit
abbrev zJP:=yB×(Int×yC×Unit)×Unit
abbrev zZv:=yB×yB×Int×Int×yB×Int×yC
abbrev zIV:=yB×yB×Unit×Int×Int×Unit
abbrev zuV:=yB×Unit
abbrev zYU:=yB×yB×Int×yB
abbrev zIh:=yB×yB×Unit×Int×Unit
def zn8 (a:yB) (b:yB) (i:Int) (k:Int) (j:Int) (out_:yB) (t_0:Int) (t_1:yC):Wy zIA zJP zZv:=.i (decide (0<=k)&&decide (k<Int.ofNat b.length)) (.i (decide (j<Int.ofNat (b.getD k.toNat default).Fs.length)) (.i (decide (0<=k)&&decide (k<Int.ofNat b.length)) (.i (decide (0<=j)&&decide (j<Int.ofNat (b.getD k.toNat default).Fs.length)) (.bn (zJe t_1 (FO.mk (At.mk ((b.getD k.toNat default).Fs.getD j.toNat default).At.Kind ((b.getD k.toNat default).Fs.getD j.toNat default).At.Row ((b.getD k.toNat default).Fs.getD j.toNat default).At.Ag ((b.getD k.toNat default).Fs.getD j.toNat default).At.Func ((b.getD k.toNat default).Fs.getD j.toNat default).At.Items ((b.getD k.toNat default).Fs.getD j.toNat default).At.Op ((b.getD k.toNat default).Fs.getD j.toNat default).At.Bd) ((b.getD k.toNat default).Fs.getD j.toNat default).Exp)) λr0=>.h (a,b,(),i,k,(),(IntKind.i64.wrap (j+1)),()) (out_,(t_0,(r0),()),())) .d) .d) (.k (a,b,i,k,out_,t_0,t_1))) .d
def zGQ (x:zIA) (y:zJP):=zn8 x.1 x.2.1 x.2.2.2.1 x.2.2.2.2.1 x.2.2.2.2.2.2.1 y.1 y.2.1.1 y.2.1.2.1
def zGU (n:Nat) (a:yB) (b:yB) (i:Int) (k:Int) (j:Int) (out_:yB) (t_0:Int) (t_1:yC):=zA (zGQ) default n (a,b,(),i,k,(),j,()) (out_,(t_0,t_1,()),())
def zpQ (a:yB) (b:yB) (i:Int) (k:Int) (out_:yB):Wy zIV zuV zYU:=.i (decide (k<Int.ofNat b.length)) (.i (decide (0<=i)&&decide (i<Int.ofNat a.length)) (.i (decide (0<=k)&&decide (k<Int.ofNat b.length)) (.bn (zMC (a.getD i.toNat default).Cf (b.getD k.toNat default).Cf) λr4=>.i (decide (0<=i)&&decide (i<Int.ofNat a.length)) (.bn (zGU ((a.length+b.length+i.toNat +k.toNat +Int.toNat 0+out_.length+r4.toNat +(a.getD i.toNat default).Fs.length+1)+zdY a+zdY b+zdY out_+z5N (a.getD i.toNat default).Fs) a b i k 0 out_ r4 (a.getD i.toNat default).Fs) λr3=>.bn (zAI r3.2.2.2.2.1 (TO.mk r3.2.2.2.2.2.1 r3.2.2.2.2.2.2)) λr2=>.h ((r3.1),(r3.2.1),(),(r3.2.2.1),(IntKind.i64.wrap (r3.2.2.2.1+1)),()) ((r2),())) .d) .d) .d) (.k (a,b,i,out_))
def zJH (x:zIV) (y:zuV):=zpQ x.1 x.2.1 x.2.2.2.1 x.2.2.2.2.1 y.1
def zJE (n:Nat) (a:yB) (b:yB) (i:Int) (k:Int) (out_:yB):=zA (zJH) default n (a,b,(),i,k,()) (out_,())
def zqc (a:yB) (b:yB) (i:Int) (out_:yB):Wy zIh zuV (yB):=.i (decide (i<Int.ofNat a.length)) (.bn (zJE ((a.length+b.length+i.toNat +Int.toNat 0+out_.length+1)+zdY a+zdY b+zdY out_) a b i 0 out_) λr8=>.h ((r8.1),(r8.2.1),(),(IntKind.i64.wrap (r8.2.2.1+1)),()) ((r8.2.2.2),())) (.k out_)
def zJR (x:zIh) (y:zuV):=zqc x.1 x.2.1 x.2.2.2.1 y.1
def zIl (n:Nat) (a:yB) (b:yB) (i:Int) (out_:yB):=zA (zJR) default n (a,b,(),i,()) (out_,())
def zLr (a:yB) (b:yB):Wy0 (yB):=.bn (zIl ((a.length+b.length+Int.toNat 0+0+1)+zdY a+zdY b+zdY []) a b 0 []) λr10=>.k r10
def zGA (a:yB) (b:yB):=(zLr a b).fin default
def zXI (a:yB) (b:yB):Wy0 (yB×Int):=.bn (zgr a) λr3=>.i (!r3) (.k ([],1)) (.bn (zgr b) λr2=>.i (!r2) (.k ([],1)) (.bn (zGA a b) λr1=>.bn (zmi r1) λr0=>.k (r0.1,r0.2)))
def z3Z (a:yB) (b:yB):=(zXI a b).fin default
def z9L (t:Term):yB->yB
 | []=>[t]
 | x::r=>if cT x t=0 then ⟨zyh x.Cf t.Cf,t.Fs⟩::r else t::x::r
def z9I (f:Fc):yC->yC
 | []=>[f]
 | x::r=>if cF x f=0 then (if f.At.Kind<3 then ⟨f.At,x.Exp+f.Exp⟩ else f)::r else f::x::r
theorem zbed {t:Term} {l:yB} {k:Nat} (hk:k<l.length):z9L t (l.drop k)=if cT (l.getD k default) t=0 then ⟨zyh (l.getD k default).Cf t.Cf,t.Fs⟩::l.drop (k+1) else t::l.drop k:=by
 rw [zbf hk]; rfl
theorem zbdO {f:Fc} {l:yC} {k:Nat} (hk:k<l.length):z9I f (l.drop k)=if cF (l.getD k default) f=0 then (if f.At.Kind<3 then ⟨f.At,(l.getD k default).Exp+f.Exp⟩ else f)::l.drop (k+1) else f::l.drop k:=by
 rw [zbf hk]; rfl
theorem z9B (t:Term):∀ l:yB,ziD t l=l.takeWhile (λx=>decide (cT x t<0))++z9L t (l.dropWhile (λx=>decide (cT x t<0)))
 | []=>rfl
 | x::r=>by
  rw [List.takeWhile_cons,List.dropWhile_cons];unfold ziD;by_cases h:cT x t<0
  ·simp only [h,if_true,decide_true,List.cons_append];rw [z9B t r]
  ·simp only [h,if_false,decide_false,Bool.false_eq_true,List.nil_append]; rfl
theorem z9k (f:Fc):∀ l:yC,zGE f l=l.takeWhile (λx=>decide (cF x f<0))++z9I f (l.dropWhile (λx=>decide (cF x f<0)))
 | []=>rfl
 | x::r=>by
  rw [List.takeWhile_cons,List.dropWhile_cons];unfold zGE;by_cases h:cF x f<0
  ·simp only [h,if_true,decide_true,List.cons_append];rw [z9k f r]
  ·simp only [h,if_false,decide_false,Bool.false_eq_true,List.nil_append]; rfl
theorem z9h {a b:Int} (ha:0<=a/\a<=1152921504606846976) (hb:0<=b/\b<=1152921504606846976):IntKind.i64.wrap (a+b)=a+b:=zfK (by omega) (by omega)
theorem zba7 {τ:Type} (l:List τ) (p:τ->Bool):(l.takeWhile p).length<=l.length:=(List.takeWhile_prefix p).length_le
theorem zbfD (z:Int):(z==0)=decide (z=0):=zga z 0
theorem z8Y {d:Nat} (l:yB) (t:Term) (hl:l.length<=1000000) (h:∀ x∈l,zgu (zo d) x.Fs) (hd:d<=99) (hc:∀ x∈l,cOK x) (ht:cOK t):zAI l t=(true,ziD t l):=by
 have hreach:zF=70368744177664:=rfl;unfold zAI zYj
 have hL:=zHt (W:=zIc) (z:=default) l (λx=>decide (cT x t<0)) (λk=>(l,(),(k:Int),())) (λ_=>(t,())) (λk=>(l,(k:Int),t))
  (λk hk H K D=>by
   show (zxx l k t).ev H K D=_;unfold zxx;simp only [Wy.ev_i,Wy.ev_k,Wy.ev_h,Wy.ev_bn,Wy.ev_d,tT,hk,zq7 (h _ (zn hk)) hd];rw [zD (by omega)]; rfl)
  (λH K D=>by
   show (zxx l l.length t).ev H K D=_;unfold zxx;simp only [Wy.ev_i,Wy.ev_k,tT,Nat.lt_irrefl]) (l.length+Int.toNat (0:Int)+t.Fs.length+(1:Nat)) (by omega)
 have hL:zVa (l.length+Int.toNat (0:Int)+t.Fs.length+(1:Nat)) l 0 t=_:=hL;rw [hL,zWp,z9B];have q1:=zba7 l (λx=>decide (cT x t<0))
 have q2:=zNI (λx=>decide (cT x t<0)) l
 have q3:=zO0 (λx=>decide (cT x t<0)) l
 generalize (l.takeWhile λx=>decide (cT x t<0)).length=k at q1 q2 q3 ⊢
 rw [<- q2, <- q3];have g1:(decide ((0:Int)<=(0:Int))&&decide ((0:Int)<=(k:Int))&&decide ((k:Int)<=Int.ofNat l.length))=true:=by simp only [qc,qe,Int.ofNat_eq_natCast]; omega
 have g2:decide ((0+(l.take k).length)*32<=zF)=true:=by simp only [qe,List.length_take]; omega
 have g4:∀ m:Nat,decide (((l.take k).length+[(⟨0,[]⟩:Term)].length)*32<=zF)=true:=λm=>by simp only [qe,List.length_take,List.length_singleton]; omega
 simp only [Wy.fin_i,Wy.fin_k,Wy.fin_bn,List.nil_append,Int.toNat_natCast,zNL,zwb,g1,g2,cond_true];by_cases hk:k<l.length
 ·have g3:decide ((k:Int)<Int.ofNat l.length)=true:=by simp [hk]
  have g5:(decide ((0:Int)<=(k:Int))&&decide ((k:Int)<Int.ofNat l.length))=true:=by rw [g3]; simp
  have hm:=zn hk;simp only [g3,zea,Bool.and_self,cond_true,zq7 (h _ hm) hd];rw [zbfD,zbed hk];have gw:IntKind.i64.wrap ((k:Int)+1)=((k+1:Nat):Int):=zD (by omega)
  have gp:(zuS (l.getD k default).Cf t.Cf).2=zyh (l.getD k default).Cf t.Cf:=by
   unfold zuS zVX zyh;rw [Wy.fin_k,z9h ⟨by have:=(hc _ hm).1; omega,(hc _ hm).2⟩ ⟨by have:=ht.1; omega,ht.2⟩]
  have gk:(decide ((0:Int)<=(k:Int))&&decide ((k:Int)<=Int.ofNat l.length)&&decide (Int.ofNat l.length<=Int.ofNat l.length))=true:=by simp only [qc,qe,Int.ofNat_eq_natCast]; omega
  have gk':decide ((k:Int)<=Int.ofNat l.length)=true:=by simp only [qe,Int.ofNat_eq_natCast]; omega
  have gk1':decide (((k+1:Nat):Int)<=Int.ofNat l.length)=true:=by simp only [qe,Int.ofNat_eq_natCast]; omega
  have gk1:(decide ((0:Int)<=((k+1:Nat):Int))&&decide (((k+1:Nat):Int)<=Int.ofNat l.length)&&decide (Int.ofNat l.length<=Int.ofNat l.length))=true:=by simp only [qc,qe,Int.ofNat_eq_natCast]; omega
  have gb:∀ x:Term,decide (((l.take k).length+[x].length)*32<=zF)=true:=λx=>by simp only [qe,List.length_take,List.length_singleton]; omega
  have gc:∀ (x:Term) (m:Nat),decide (((l.take k++[x]).length+(l.drop m).length)*32<=zF)=true:=λx m=>by simp only [qe,List.length_take,List.length_drop,qg,List.length_singleton]; omega
  by_cases hz:cT (l.getD k default) t=0
  ·have hz':zbs (zbv (l.getD k default).Fs) (zbv t.Fs)=0:=hz;simp only [hz,hz',if_true,decide_true,cond_true,gw,gp,zea,Bool.true_and,gk1',Int.le_refl,decide_true,cond_true,Bool.and_self,gb,gc,Int.toNat_natCast,zwb,List.append_assoc,List.singleton_append]
  ·have hz':¬ zbs (zbv (l.getD k default).Fs) (zbv t.Fs)=0:=hz;simp only [hz,hz',if_false,decide_false,cond_false,cond_true,zea,Bool.true_and,gk',Int.le_refl,decide_true,cond_true,Bool.and_self,gb,gc,List.append_assoc,List.singleton_append]
 ·have hk':k=l.length:=by omega
  have g3:decide ((k:Int)<Int.ofNat l.length)=false:=by simp [hk]
  have gk:(decide ((0:Int)<=(k:Int))&&decide ((k:Int)<=Int.ofNat l.length)&&decide (Int.ofNat l.length<=Int.ofNat l.length))=true:=by simp only [qc,qe,Int.ofNat_eq_natCast]; omega
  have gb:∀ x:Term,decide (((l.take k).length+[x].length)*32<=zF)=true:=λx=>by simp only [qe,List.length_take,List.length_singleton]; omega
  have gc:∀ (x:Term) (m:Nat),decide (((l.take k++[x]).length+(l.drop m).length)*32<=zF)=true:=λx m=>by simp only [qe,List.length_take,List.length_drop,qg,List.length_singleton]; omega
  have gk':decide ((k:Int)<=Int.ofNat l.length)=true:=by simp only [qe,Int.ofNat_eq_natCast]; omega
  simp only [g3,zea,Bool.true_and,gk',Int.le_refl,decide_true,Bool.and_self,gb,gc,cond_true,cond_false];rw [zce hk];simp [z9L,z9I]
theorem zbec {d:Nat} (l:yC) (f:Fc) (hl:l.length<=1000000) (h:∀ x∈l,zc0 (zo d) x.At) (hd:d<=99) (hc:∀ x∈l,0<=x.Exp/\x.Exp<=1000000) (ht:0<=f.Exp/\f.Exp<=1000000):zJe l f=(true,zGE f l):=by
 have hreach:zF=70368744177664:=rfl;unfold zJe zNq
 have hL:=zHt (W:=zLk) (z:=default) l (λx=>decide (cF x f<0)) (λk=>(l,(),(k:Int),())) (λ_=>(f,())) (λk=>(l,(k:Int),f))
  (λk hk H K D=>by
   show (zrM l k f).ev H K D=_;unfold zrM;simp only [At.eta,Wy.ev_i,Wy.ev_k,Wy.ev_h,Wy.ev_bn,Wy.ev_d,tT,hk,zuH (h _ (zn hk)) hd];rw [zD (by omega)]; rfl)
  (λH K D=>by
   show (zrM l l.length f).ev H K D=_;unfold zrM;simp only [Wy.ev_i,Wy.ev_k,tT,Nat.lt_irrefl]) (l.length+Int.toNat (0:Int)+f.At.Ag.length+f.At.Items.length+(1:Nat)) (by omega)
 have hL:zLE (l.length+Int.toNat (0:Int)+f.At.Ag.length+f.At.Items.length+(1:Nat)) l 0 f=_:=hL;rw [At.eta,show (FO.mk f.At f.Exp:Fc)=f from rfl,hL,zWp,z9k]
 have q1:=zba7 l (λx=>decide (cF x f<0))
 have q2:=zNI (λx=>decide (cF x f<0)) l
 have q3:=zO0 (λx=>decide (cF x f<0)) l
 generalize (l.takeWhile λx=>decide (cF x f<0)).length=k at q1 q2 q3 ⊢
 rw [<- q2, <- q3];have g1:(decide ((0:Int)<=(0:Int))&&decide ((0:Int)<=(k:Int))&&decide ((k:Int)<=Int.ofNat l.length))=true:=by simp only [qc,qe,Int.ofNat_eq_natCast]; omega
 have g2:decide ((0+(l.take k).length)*128<=zF)=true:=by simp only [qe,List.length_take]; omega
 have gb:∀ x:Fc,decide (((l.take k).length+[x].length)*128<=zF)=true:=λx=>by simp only [qe,List.length_take,List.length_singleton]; omega
 have gc:∀ (x:Fc) (m:Nat),decide (((l.take k++[x]).length+(l.drop m).length)*128<=zF)=true:=λx m=>by simp only [qe,List.length_take,List.length_drop,qg,List.length_singleton]; omega
 have gk:(decide ((0:Int)<=(k:Int))&&decide ((k:Int)<=Int.ofNat l.length)&&decide (Int.ofNat l.length<=Int.ofNat l.length))=true:=by simp only [qc,qe,Int.ofNat_eq_natCast]; omega
 have ef:(FO.mk f.At f.Exp:Fc)=f:=rfl;simp only [At.eta,ef,Wy.fin_i,Wy.fin_k,Wy.fin_bn,List.nil_append,Int.toNat_natCast,zNL,zwb,g1,g2,cond_true];by_cases hk:k<l.length
 ·have g3:decide ((k:Int)<Int.ofNat l.length)=true:=by simp [hk]
  have g5:(decide ((0:Int)<=(k:Int))&&decide ((k:Int)<Int.ofNat l.length))=true:=by rw [g3]; simp
  have hm:=zn hk;simp only [g3,zea,Bool.and_self,cond_true,zuH (h _ hm) hd];rw [zbfD,zbdO hk];have gw:IntKind.i64.wrap ((k:Int)+1)=((k+1:Nat):Int):=zD (by omega)
  have gp:IntKind.i64.wrap ((l.getD k default).Exp+f.Exp)=(l.getD k default).Exp+f.Exp:=by have:=hc _ hm; exact zfK (by omega) (by omega)
  have gk':decide ((k:Int)<=Int.ofNat l.length)=true:=by simp only [qe,Int.ofNat_eq_natCast]; omega
  have gk1':decide (((k+1:Nat):Int)<=Int.ofNat l.length)=true:=by simp only [qe,Int.ofNat_eq_natCast]; omega
  have gk1:(decide ((0:Int)<=((k+1:Nat):Int))&&decide (((k+1:Nat):Int)<=Int.ofNat l.length)&&decide (Int.ofNat l.length<=Int.ofNat l.length))=true:=by simp only [qc,qe,Int.ofNat_eq_natCast]; omega
  by_cases hz:cF (l.getD k default) f=0
  ·have hz':zbb (zdN (l.getD k default).At) (zdN f.At)=0:=hz;by_cases hk3:f.At.Kind<3
   ·simp only [hz,hz',hk3,if_true,decide_true,cond_true,gw,gp,zea,Bool.true_and,gk1',Int.le_refl,decide_true,cond_true,Bool.and_self,gb,gc,Int.toNat_natCast,zwb,List.append_assoc,List.singleton_append]
   ·simp only [hz,hz',hk3,if_true,if_false,decide_true,decide_false,cond_true,cond_false,gw,gp,zea,Bool.true_and,gk1',Int.le_refl,decide_true,cond_true,Bool.and_self,gb,gc,Int.toNat_natCast,zwb,List.append_assoc,List.singleton_append]
  ·have hz':¬ zbb (zdN (l.getD k default).At) (zdN f.At)=0:=hz;simp only [hz,hz',if_false,decide_false,cond_false,cond_true,zea,Bool.true_and,gk',Int.le_refl,decide_true,cond_true,Bool.and_self,gb,gc,List.append_assoc,List.singleton_append]
 ·have g3:decide ((k:Int)<Int.ofNat l.length)=false:=by simp [hk]
  have gk':decide ((k:Int)<=Int.ofNat l.length)=true:=by simp only [qe,Int.ofNat_eq_natCast]; omega
  simp only [g3,zea,Bool.true_and,gk',Int.le_refl,decide_true,Bool.and_self,gb,gc,cond_true,cond_false];rw [zce hk];simp [z9L,z9I]
theorem zbf4 (n:Nat) (h:n<=4000000):zdO (n:Int)=(true,[]):=by
 have hreach:zF=70368744177664:=rfl;unfold zdO zlS;have e0:IntKind.i64.wrap ((0:Int) - 0)=0:=rfl;have e1:IntKind.i64.wrap ((n:Int) - 0)=(n:Int):=by rw [zfK (by omega) (by omega)]; omega
 have e2:decide ((n:Int)<0)=false:=decide_eq_false (by omega)
 rw [Wy.fin_i,e2,cond_false,e0,e1];by_cases hn:(n:Int)>0
 ·have e3:(true&&(decide ((n:Int)*Int.ofNat (32:Nat)<=Int.ofNat zF)&&(decide ((n:Int)<=Int.ofNat zF)&& !Nat.beq (2:Nat) (0:Nat))))=true:=by
   simp only [qc,qe,Int.ofNat_eq_natCast];exact ⟨trivial,by rw [hreach]; omega,by rw [hreach]; omega,rfl⟩
  rw [Wy.fin_i,decide_eq_true hn,cond_true,Wy.fin_i,e3,cond_true,Wy.fin_k];simp
 ·rw [Wy.fin_i,decide_eq_false hn]; rfl
theorem zbb1 (ls:yA) (hn:ls.length<=10) (h:∀ l∈ls,l.length<=300000):zdq ls=(true,ls.flatten):=by
 have hreach:zF=70368744177664:=rfl;unfold zdq zkV;have e:∀ l:yB,l∈ls->l.length<=300000:=h
 have h1:=zcP (W:=zfX) (z:=default) (l:=ls) (λi (n:Nat)=>(ls,(n:Int),ls,(ls.length:Int),(i:Int),())) (λ_ _=>()) (λy n=>.inl (n+y.length)) (λn=>(ls,(n:Int))) (λi n=>n<=i*300000)
  (λi n hi hI=>.inl ⟨_,rfl,by have:=e _ (zn hi); omega,λH K D=>by
   show (zcQ ls n ls ls.length i).ev H K D=_;unfold zcQ;have hle:=e _ (zn hi);have hw:IntKind.i64.wrap ((n:Int)+((ls.getD i default).length:Int))=((n+(ls.getD i default).length:Nat):Int):=znA (by omega)
   simp only [Wy.ev_i,Wy.ev_k,Wy.ev_h,Wy.ev_bn,Wy.ev_d,tT,hi,hw];have h0:decide (((n+(ls.getD i default).length:Nat):Int)<0)=false:=decide_eq_false (by omega)
   rw [h0,zD (by omega)]; rfl⟩)
  (λn hI H K D=>by
   show (zcQ ls n ls ls.length ls.length).ev H K D=_;unfold zcQ;simp only [Wy.ev_i,Wy.ev_k,tT,Nat.lt_irrefl]) (ls.length+Int.toNat (0:Int)+ls.length+(Int.ofNat ls.length).toNat +Int.toNat (0:Int)+(1:Nat)) 0 0 (by omega) (by omega) (by omega)
 rw [List.drop_zero,zcO] at h1;have h1:zkH (ls.length+Int.toNat (0:Int)+ls.length+(Int.ofNat ls.length).toNat +Int.toNat (0:Int)+(1:Nat)) ls 0 ls (Int.ofNat ls.length) 0=_:=h1
 have hb:∀ (r:yA) (n:Nat),(∀ l∈r,l.length<=300000)->r.foldl (λn (y:yB)=>n+y.length) n<=n+r.length*300000:=λr=>by
  induction r with
  | nil=>intro n _; simp
  | cons y r ih=>
   intro n hr;have q1:=ih (n+y.length) λl hl=>hr l (by simp [hl])
   have q2:=hr y (by simp)
   rw [List.foldl_cons,qf]; omega
 have hsz:=hb ls 0 h
 have h2:=zcP (W:=zfy) (z:=default) (l:=ls) (λi (out:yB)=>((),ls,(ls.length:Int),(i:Int),())) (λ_ out=>(out,())) (λy out=>.inl (out++y)) (λout=>out) (λi out=>out.length<=i*300000)
  (λi out hi hI=>.inl ⟨_,rfl,by have:=e _ (zn hi); simp only [qg]; omega,λH K D=>by
   show (zcL ls ls.length i out).ev H K D=_;unfold zcL;have hle:=e _ (zn hi);have hr:decide ((out.length+(ls.getD i default).length)*32<=zF)=true:=by simp only [qe]; omega
   simp only [Wy.ev_i,Wy.ev_k,Wy.ev_h,Wy.ev_bn,Wy.ev_d,tT,hi,hr];rw [zD (by omega)]⟩)
  (λout hI H K D=>by
   show (zcL ls ls.length ls.length out).ev H K D=_;unfold zcL;simp only [Wy.ev_i,Wy.ev_k,tT,Nat.lt_irrefl]) (ls.length+(Int.ofNat ls.length).toNat +Int.toNat (0:Int)+([]:yB).length+(1:Nat)) 0 [] (by omega) (by omega) (by simp)
 rw [List.drop_zero,zcO] at h2;have h2:zjZ (ls.length+(Int.ofNat ls.length).toNat +Int.toNat (0:Int)+([]:yB).length+(1:Nat)) ls (Int.ofNat ls.length) 0 []=_:=h2
 have hf:∀ (r:yA) (out:yB),r.foldl (λout y=>out++y) out=out++r.flatten:=λr=>by
  induction r with
  | nil=>intro out; simp
  | cons y r ih=>intro out; rw [List.foldl_cons,ih,List.flatten_cons,List.append_assoc]
 rw [Wy.fin_bn,h1,cond_true];simp only [Wy.fin_bn,zbf4 _ (show ls.foldl (λn (y:yB)=>n+y.length) 0<=4000000 by have:=Nat.mul_le_mul hn (Nat.le_refl 300000); omega),cond_true,h2,Wy.fin_k]
 rw [hf]; simp
theorem zbfk (n:Nat) (h:n<=4000000):zd0 (n:Int)=(true,[]):=by
 have hreach:zF=70368744177664:=rfl;unfold zd0 zmx;have e0:IntKind.i64.wrap ((0:Int) - 0)=0:=rfl;have e1:IntKind.i64.wrap ((n:Int) - 0)=(n:Int):=by rw [zfK (by omega) (by omega)]; omega
 have e2:decide ((n:Int)<0)=false:=decide_eq_false (by omega)
 rw [Wy.fin_i,e2,cond_false,e0,e1];by_cases hn:(n:Int)>0
 ·have e3:(true&&(decide ((n:Int)*Int.ofNat (128:Nat)<=Int.ofNat zF)&&(decide ((n:Int)<=Int.ofNat zF)&& !Nat.beq (11:Nat) (0:Nat))))=true:=by
   simp only [qc,qe,Int.ofNat_eq_natCast];exact ⟨trivial,by rw [hreach]; omega,by rw [hreach]; omega,rfl⟩
  rw [Wy.fin_i,decide_eq_true hn,cond_true,Wy.fin_i,e3,cond_true,Wy.fin_k];simp
 ·rw [Wy.fin_i,decide_eq_false hn]; rfl
theorem zbcn (ls:List (yC)) (hn:ls.length<=10) (h:∀ l∈ls,l.length<=300000):zdx ls=(true,ls.flatten):=by
 have hreach:zF=70368744177664:=rfl;unfold zdx zls;have e:∀ l:yC,l∈ls->l.length<=300000:=h
 have h1:=zcP (W:=zf7) (z:=default) (l:=ls) (λi (n:Nat)=>(ls,(n:Int),ls,(ls.length:Int),(i:Int),())) (λ_ _=>()) (λy n=>.inl (n+y.length)) (λn=>(ls,(n:Int))) (λi n=>n<=i*300000)
  (λi n hi hI=>.inl ⟨_,rfl,by have:=e _ (zn hi); omega,λH K D=>by
   show (zcZ ls n ls ls.length i).ev H K D=_;unfold zcZ;have hle:=e _ (zn hi);have hw:IntKind.i64.wrap ((n:Int)+((ls.getD i default).length:Int))=((n+(ls.getD i default).length:Nat):Int):=znA (by omega)
   simp only [Wy.ev_i,Wy.ev_k,Wy.ev_h,Wy.ev_bn,Wy.ev_d,tT,hi,hw];have h0:decide (((n+(ls.getD i default).length:Nat):Int)<0)=false:=decide_eq_false (by omega)
   rw [h0,zD (by omega)]; rfl⟩)
  (λn hI H K D=>by
   show (zcZ ls n ls ls.length ls.length).ev H K D=_;unfold zcZ;simp only [Wy.ev_i,Wy.ev_k,tT,Nat.lt_irrefl]) (ls.length+Int.toNat (0:Int)+ls.length+(Int.ofNat ls.length).toNat +Int.toNat (0:Int)+(1:Nat)) 0 0 (by omega) (by omega) (by omega)
 rw [List.drop_zero,zcO] at h1;have h1:zkS (ls.length+Int.toNat (0:Int)+ls.length+(Int.ofNat ls.length).toNat +Int.toNat (0:Int)+(1:Nat)) ls 0 ls (Int.ofNat ls.length) 0=_:=h1
 have hb:∀ (r:List (yC)) (n:Nat),(∀ l∈r,l.length<=300000)->r.foldl (λn (y:yC)=>n+y.length) n<=n+r.length*300000:=λr=>by
  induction r with
  | nil=>intro n _; simp
  | cons y r ih=>
   intro n hr;have q1:=ih (n+y.length) λl hl=>hr l (by simp [hl])
   have q2:=hr y (by simp)
   rw [List.foldl_cons,qf]; omega
 have hsz:=hb ls 0 h
 have h2:=zcP (W:=zfO) (z:=default) (l:=ls) (λi (out:yC)=>((),ls,(ls.length:Int),(i:Int),())) (λ_ out=>(out,())) (λy out=>.inl (out++y)) (λout=>out) (λi out=>out.length<=i*300000)
  (λi out hi hI=>.inl ⟨_,rfl,by have:=e _ (zn hi); simp only [qg]; omega,λH K D=>by
   show (zcT ls ls.length i out).ev H K D=_;unfold zcT;have hle:=e _ (zn hi);have hr:decide ((out.length+(ls.getD i default).length)*128<=zF)=true:=by simp only [qe]; omega
   simp only [Wy.ev_i,Wy.ev_k,Wy.ev_h,Wy.ev_bn,Wy.ev_d,tT,hi,hr];rw [zD (by omega)]⟩)
  (λout hI H K D=>by
   show (zcT ls ls.length ls.length out).ev H K D=_;unfold zcT;simp only [Wy.ev_i,Wy.ev_k,tT,Nat.lt_irrefl]) (ls.length+(Int.ofNat ls.length).toNat +Int.toNat (0:Int)+([]:yC).length+(1:Nat)) 0 [] (by omega) (by omega) (by simp)
 rw [List.drop_zero,zcO] at h2;have h2:zj8 (ls.length+(Int.ofNat ls.length).toNat +Int.toNat (0:Int)+([]:yC).length+(1:Nat)) ls (Int.ofNat ls.length) 0 []=_:=h2
 have hf:∀ (r:List (yC)) (out:yC),r.foldl (λout y=>out++y) out=out++r.flatten:=λr=>by
  induction r with
  | nil=>intro out; simp
  | cons y r ih=>intro out; rw [List.foldl_cons,ih,List.flatten_cons,List.append_assoc]
 rw [Wy.fin_bn,h1,cond_true];simp only [Wy.fin_bn,zbfk _ (show ls.foldl (λn (y:yC)=>n+y.length) 0<=4000000 by have:=Nat.mul_le_mul hn (Nat.le_refl 300000); omega),cond_true,h2,Wy.fin_k]
 rw [hf]; simp
theorem zFq {d:Nat} (hd:d<=99):∀ (n:Nat) (a b out:yC),a.length+b.length<n->a.length+b.length+out.length<=1000000->(∀ x∈a,zc0 (zo d) x.At/\0<=x.Exp/\x.Exp<=1000000)->(∀ x∈b,0<=x.Exp/\x.Exp<=1000000)->
  ∃ a' b' out',zxm n a b out=(true,(a',b',out'))/\out'++(a'++b')=out++zbK a b/\a'.length<=a.length/\b'.length<=b.length/\out'.length<=out.length+a.length+b.length
 | 0,a,b,out,h,_,_,_=>by omega
 | n+1,a,b,out,h,hl,ha,hb=>by
  have hreach:zF=70368744177664:=rfl;show ∃ a' b' out',(zxU a b out).ev (λx y=>zxm n x.1 x.2.1 y.1) (λr=>(true,r)) (false,default)=_/\_
  unfold zxU
  match a,b,h,hl,ha,hb with
  | [],b,h,hl,ha,hb=>exact ⟨[],b,out,rfl,by rw [zbK]; simp,Nat.le_refl _,Nat.le_refl _,by omega⟩
  | x::a,[],h,hl,ha,hb=>
   have e1:decide (Int.ofNat (x::a).length>0)=true:=by simp
   refine ⟨x::a,[],out, ?_,by rw [zbK]; simp,Nat.le_refl _,Nat.le_refl _,by omega⟩
   rw [Wy.ev_i,e1,cond_true]; rfl
  | x::a,y::b,h,hl,ha,hb=>
   have hx:=ha x (by simp)
   have hy:=hb y (by simp)
   simp only [qf] at h hl;have e1:decide (Int.ofNat (x::a).length>0)=true:=by simp
   have e2:decide (Int.ofNat (y::b).length>0)=true:=by simp
   have e3:(decide ((0:Int)<=0)&&decide ((0:Int)<Int.ofNat (x::a).length))=true:=by simp
   have e4:(decide ((0:Int)<=0)&&decide ((0:Int)<Int.ofNat (y::b).length))=true:=by simp
   have e5:(x::a).getD (Int.toNat 0) default=x:=rfl;have e6:(y::b).getD (Int.toNat 0) default=y:=rfl;have e7:∀ z:Fc,decide ((out.length+[z].length)*128<=zF)=true:=λz=>by simp only [qe,List.length_singleton]; omega
   have e8:(decide ((0:Int)<=1)&&decide ((1:Int)<=Int.ofNat (x::a).length)&&decide (Int.ofNat (x::a).length<=Int.ofNat (x::a).length))=true:=by simp; omega
   have e9:(decide ((0:Int)<=1)&&decide ((1:Int)<=Int.ofNat (y::b).length)&&decide (Int.ofNat (y::b).length<=Int.ofNat (y::b).length))=true:=by simp; omega
   have e10:List.take ((Int.ofNat (x::a).length).toNat - Int.toNat 1) (List.drop (Int.toNat 1) (x::a))=a:=by rw [show Int.toNat 1=1 from rfl,zwb]; rfl
   have e11:List.take ((Int.ofNat (y::b).length).toNat - Int.toNat 1) (List.drop (Int.toNat 1) (y::b))=b:=by rw [show Int.toNat 1=1 from rfl,zwb]; rfl
   have ea:∀ z∈a,zc0 (zo d) z.At/\0<=z.Exp/\z.Exp<=1000000:=λz hz=>ha z (by simp [hz])
   have eb:∀ z∈b,0<=z.Exp/\z.Exp<=1000000:=λz hz=>hb z (by simp [hz])
   have ex:(FO.mk x.At x.Exp:Fc)=x:=rfl;have ey:(FO.mk y.At y.Exp:Fc)=y:=rfl;simp only [Wy.ev_i,Wy.ev_k,Wy.ev_h,Wy.ev_bn,Wy.ev_d,e1,e2,e3,e4,e5,e6,e7,e8,e9,e10,e11,cond_true,At.eta,zv6 hx.1 hd,z2V,ex,ey];rw [zbK];have hcf:cF x y=zbb (zdN x.At) (zdN y.At):=rfl;rw [<- hcf];by_cases h1:cF x y<0
   ·simp only [h1,decide_true,cond_true,if_true];obtain ⟨a',b',out',r1,r2,r3,r4,r5⟩:=zFq hd n a (y::b) (out++[x]) (by simp only [qf]; omega) (by simp only [qf,qg,List.length_nil]; omega) ea hb
    refine ⟨a',b',out',r1,by rw [r2]; simp,by simp only [qf]; omega,by simpa using r4,by simp only [qf,qg,List.length_nil] at r5 ⊢; omega⟩
   ·by_cases h2:0<cF x y
    ·have h2':cF x y>0:=h2;simp only [h1,h2,h2',decide_true,decide_false,cond_true,cond_false,if_true,if_false];obtain ⟨a',b',out',r1,r2,r3,r4,r5⟩:=zFq hd n (x::a) b (out++[y]) (by simp only [qf]; omega) (by simp only [qf,qg,List.length_nil]; omega) ha eb
     refine ⟨a',b',out',r1,by rw [r2]; simp,by simpa using r3,by simp only [qf]; omega,by simp only [qf,qg,List.length_nil] at r5 ⊢; omega⟩
    ·have h2':¬ cF x y>0:=h2;have hw:IntKind.i64.wrap (x.Exp+y.Exp)=x.Exp+y.Exp:=zfK (by omega) (by omega)
     simp only [h1,h2,h2',decide_false,cond_false,if_false,hw];have hk:(x.At.Kind==3||x.At.Kind==4)=decide (x.At.Kind=3\/x.At.Kind=4):=by rw [zga,zga, <- Bool.decide_or]
     rw [hk];by_cases h3:x.At.Kind=3\/x.At.Kind=4
     ·simp only [h3,decide_true,Bool.not_true,cond_false,if_true];obtain ⟨a',b',out',r1,r2,r3,r4,r5⟩:=zFq hd n a b (out++[x]) (by omega) (by simp only [qg,qf,List.length_nil]; omega) ea eb
      refine ⟨a',b',out',r1,by rw [r2]; simp,by simp only [qf]; omega,by simp only [qf]; omega,by simp only [qf,qg,List.length_nil] at r5 ⊢; omega⟩
     ·simp only [h3,decide_false,Bool.not_false,cond_true,if_false];obtain ⟨a',b',out',r1,r2,r3,r4,r5⟩:=zFq hd n a b (out++[⟨x.At,x.Exp+y.Exp⟩]) (by omega) (by simp only [qg,qf,List.length_nil]; omega) ea eb
      refine ⟨a',b',out',r1,by rw [r2]; simp,by simp only [qf]; omega,by simp only [qf]; omega,by simp only [qf,qg,List.length_nil] at r5 ⊢; omega⟩
theorem zber {d:Nat} (hd:d<=99) (a b:yC) (hl:a.length+b.length<=100000) (ha:∀ x∈a,zc0 (zo d) x.At/\0<=x.Exp/\x.Exp<=1000000) (hb:∀ x∈b,0<=x.Exp/\x.Exp<=1000000):zmX a b=(true,zbK a b):=by
 unfold zmX zHc;obtain ⟨a',b',out',r1,r2,r3,r4,r5⟩:=zFq hd (a.length+b.length+(0:Nat)+(1:Nat)) a b [] (by omega) (by simp; omega) ha hb
 rw [Wy.fin_bn,r1,cond_true]
 have hc:=zbcn [out',a',b'] (by simp) (λl hl'=>by
  simp only [qd,List.not_mem_nil,or_false] at hl';simp only [List.length_nil] at r5;rcases hl' with rfl | rfl | rfl <;>omega)
 simp only [Wy.fin_bn,hc,cond_true,Wy.fin_k];congr 1
 simpa using r2
theorem z6l {a b:Int} (ha:1<=a/\a<=1152921504606846976) (hb:1<=b/\b<=1152921504606846976):zqn a b=(true,zxW a b)/\zMC a b=(true,zxW a b):=by
 obtain ⟨h1,h2⟩:=z1w ha hb;have h0:(!decide (b=(0:Int)))=true:=by rw [decide_eq_false (by omega)]; rfl
 have hq:0<=Int.tdiv 1152921504606846976 b/\Int.tdiv 1152921504606846976 b<=1152921504606846976:=by
  rw [Int.tdiv_eq_ediv_of_nonneg (by omega)]
  exact ⟨Int.ediv_nonneg (by omega) (by omega),Int.ediv_le_self _ (by omega)⟩
 have hw:IntKind.i64.wrap (Int.tdiv 1152921504606846976 b)=Int.tdiv 1152921504606846976 b:=zfK (by omega) (by omega)
 have key:∀ w:Int,(w=if Int.tdiv 1152921504606846976 b<a then 1152921504606846976 else IntKind.i64.wrap (a*b))->w=zxW a b:=λw e=>by
  rw [e]; unfold zxW;split
  ·rfl
  ·rename_i hn;have h3:=h2 hn;have h4:=Int.mul_nonneg (show 0<=a by omega) (show 0<=b by omega)
   exact zfK (by omega) (by omega)
 constructor
 ·unfold zqn zEP;rw [Wy.fin_i,h0,cond_true,Wy.fin_i,hw,Wy.fin_k,Wy.fin_k];by_cases hc:Int.tdiv 1152921504606846976 b<a
  ·rw [decide_eq_true hc,cond_true]; exact congrArg (Prod.mk true) (key _ (by rw [if_pos hc]))
  ·rw [decide_eq_false hc,cond_false]; exact congrArg (Prod.mk true) (key _ (by rw [if_neg hc]))
 ·unfold zMC zRL;rw [Wy.fin_i,h0,cond_true,Wy.fin_i,hw,Wy.fin_k,Wy.fin_k];by_cases hc:Int.tdiv 1152921504606846976 b<a
  ·rw [decide_eq_true hc,cond_true]; exact congrArg (Prod.mk true) (key _ (by rw [if_pos hc]))
  ·rw [decide_eq_false hc,cond_false]; exact congrArg (Prod.mk true) (key _ (by rw [if_neg hc]))
theorem zty {τ:Type} [Inhabited τ] {R:τ->τ->Prop} (ht:∀ x y z,R x y->R y z->R x z):∀ l:List τ,(∀ k,0<k->k<l.length->R (l.getD (k - 1) default) (l.getD k default))->l.Pairwise R
 | [],_=>.nil
 | [x],_=>by simp
 | x::y::r,h=>by
  have h1:R x y:=h 1 (by omega) (by simp)
  have h2:=zty ht (y::r) λk hk hl=>by
   have:=h (k+1) (by omega) (by simpa using hl)
   obtain ⟨j,rfl⟩:∃ j,k=j+1:=⟨k - 1,by omega⟩
   exact this
  refine qi.2 ⟨λz hz=> ?_,h2⟩
  rcases qd.1 hz with rfl | hz
  ·exact h1
  ·exact ht x y z h1 ((qi.1 h2).1 z hz)
def GF (f:Fc):Prop:=(zdU (zbz 9) f.At=true/\zhD f.At/\f.At.Items.length<=1024)/\1<=f.Exp/\f.Exp<=1000000
def GT (t:Term):Prop:=cOK t/\t.Fs.length<=1000/\∀ f∈t.Fs,GF f
def VT (t:Term):Prop:=GT t/\Srf t.Fs/\t.Fs.length<=64/\∀ f∈t.Fs,eOK f/\f.Exp<=64
theorem zsF {a:yB} (h:zX a=true) (hw:zgh a):Srs a/\a.length<=512/\∀ t∈a,VT t:=by
 have h9:=zZe h (Nat.le_refl 9);rw [z0k] at h;obtain ⟨w1,w2,w3,w4⟩:=zvh (zE8 h);have hall:=h;simp only [zwH,qc] at hall;refine ⟨zty (R:=λx y=>cT x y<0) (λx y z h1 h2=>zJj h1 h2) a λk hk hl=> ?_,w1,λt ht=> ?_⟩
 ·have:=zdP.1 hall.2 k (by omega) (by omega)
  simp only [zBz,qc,Bool.or_eq_true,qe] at this;rcases this.1.2 with e | e
  ·omega
  ·exact e
 ·obtain ⟨hc,hok⟩:=zul h ht;obtain ⟨l1,l2⟩:=w4 t ht;have hwt:=znP (zuE (zrI hw t ht)).2.1;refine ⟨⟨hc,by omega,λf hf=> ?_⟩,zty (R:=λx y=>cF x y<0) (λx y z h1 h2=>zEd h1 h2) _ λk hk hl=> ?_,l1,λf hf=> ?_⟩
  ·obtain ⟨⟨e1,_⟩,hv⟩:=zoL hok hf;exact ⟨⟨by rw [zbbe (Nat.le_refl 9)]; exact hv,(zpH (hwt f hf)).1,(l2 f hf).2⟩,e1,by have:=(l2 f hf).1; omega⟩
  ·have:=zdP.1 hok k (by omega) (by omega)
   simp only [zMk,qc,Bool.or_eq_true,qe] at this;rcases this.1.2 with e | e
   ·omega
   ·exact e
  ·obtain ⟨⟨_,e2⟩,hv⟩:=zoL hok hf;exact ⟨⟨zBK hv,e2⟩,(l2 f hf).1⟩
theorem zvg {m:Nat} {x:At} (h:zdU (zbz m) x=true) (hi:x.Items.length<=1024):zc0 (zo 9) x:=by
 cases zdl.1 h with
 | var r h=>exact ⟨⟨by simp,by simp,by show (ByteArray.mk #[]).size<=_; decide⟩,λa ha=>(by cases ha),λw hw=>(by cases hw)⟩
 | mon b c hb hc _ _ _=>
  refine ⟨⟨by simp,by simp,by show (ByteArray.mk #[]).size<=_; decide⟩,λy hy=> ?_,λw hw=>(by cases hw)⟩
  simp only [qd,List.not_mem_nil,or_false] at hy;rcases hy with rfl | rfl
  ·exact (zeJ hb).1
  ·exact (zeJ hc).1
 | del b hb _ _ _=>
  refine ⟨⟨by simp,by simp,by show (ByteArray.mk #[]).size<=_; decide⟩,λy hy=> ?_,λw hw=>(by cases hw)⟩
  rw [qh] at hy; subst hy; exact (zeJ hb).1
 | abs b hb _ _=>
  refine ⟨⟨by simp,by simp,by show (ByteArray.mk #[]).size<=_; decide⟩,λy hy=> ?_,λw hw=>(by cases hw)⟩
  rw [qh] at hy; subst hy; exact (zeJ hb).1
 | tst f l o b hl hv hs hf=>
  obtain ⟨_,hb,hit⟩:=zrY hf;simp only at hi;exact ⟨⟨by simp,by simp only; omega,by have:=zuA hb; simp only; omega⟩,λa ha=>(by cases ha),λw hw=>⟨by have:=zuA (hit w hw).1; omega,(zeJ (hv w hw).1).1⟩⟩
theorem GT.fine {t:Term} (h:GT t):zgu (zo 9) t.Fs:=⟨by have:=h.2.1; omega,λf hf=>zvg (h.2.2 f hf).1.1 (h.2.2 f hf).1.2.2⟩
theorem GF.gF {f:Fc} (h:GF f):gF (zbz 9) f:=⟨h.1.1,h.1.2.1,by constructor <;>(have:=h.2; omega)⟩
theorem GT.text {t:Term} (h:GT t):zp6 t.Fs=(true,bs (txL t.Fs)):=
 (z7H 1000).2.2 9 t.Fs h.2.1 (λf hf=>⟨(h.2.2 f hf).1.1,(h.2.2 f hf).1.2.1,(h.2.2 f hf).1.2.2,(h.2.2 f hf).gF.2.2⟩) (by omega)
theorem GT.inj {s t:Term} (hs:GT s) (ht:GT t) (h:bs (txL s.Fs)=bs (txL t.Fs)):s.Fs=t.Fs:=
 zbeo (λf hf=>(hs.2.2 f hf).gF) (λf hf=>(ht.2.2 f hf).gF) (zbfi h)
def zo3:Int->yB->List (Go.Value×Int)
 | _,[]=>[]
 | i,t::r=>(.string (bs (txL t.Fs)),i)::zo3 (i+1) r
def zGe (k:ByteArray):yB->Option Nat
 | []=>none
 | t::r=>if k=bs (txL t.Fs) then some 0 else (zGe k r).map (· +1)
theorem zK7 (k:ByteArray) (t:Term) (r:yB):zGe k (t::r)=if k=bs (txL t.Fs) then some 0 else (zGe k r).map (· +1):=rfl
theorem zbc5 (a b:ByteArray):zlf (.string a) (.string b)=decide (a=b):=by
 cases a with | mk x=>cases b with | mk y=>
 show (x==y)=_;by_cases h:x=y
 ·subst h; simp
 ·have:(x==y)=false:=by rw [beq_eq_false_iff_ne]; exact h
  rw [this]; simp [h]
theorem z69 (k:ByteArray):∀ (o:yB) (i:Int),z90 (.string k) (zo3 i o)=(zGe k o).isSome
 | [],i=>rfl
 | t::r,i=>by
  show (bif zlf (.string k) (.string (bs (txL t.Fs))) then true else z90 (.string k) (zo3 (i+1) r))=_
  rw [zbc5,z69 k r,zK7];by_cases h:k=bs (txL t.Fs)
  ·rw [decide_eq_true h,if_pos h]; rfl
  ·rw [decide_eq_false h,if_neg h]; cases zGe k r <;>rfl
theorem z7B (k:ByteArray):∀ (o:yB) (i:Int),zBH (.string k) (zo3 i o)=(zGe k o).map λj:Nat=>i+(j:Int)
 | [],i=>rfl
 | t::r,i=>by
  show (bif zlf (.string k) (.string (bs (txL t.Fs))) then some i else zBH (.string k) (zo3 (i+1) r))=_
  rw [zbc5,z7B k r,zK7];by_cases h:k=bs (txL t.Fs)
  ·rw [decide_eq_true h,if_pos h]; simp
  ·rw [decide_eq_false h,if_neg h];cases zGe k r with
   | none=>rfl
   | some j=>
    have e:i+1+(j:Int)=i+((j+1:Nat):Int):=by omega
    simp only [cond_false,Option.map_some,e]
theorem z6d (k:ByteArray) (x:Int):∀ (o:yB) (i:Int),zGe k o=none->zbat (.string k) x (zo3 i o)=zo3 i o++[(.string k,x)]
 | [],i,_=>rfl
 | t::r,i,h=>by
  rw [zK7] at h;by_cases hk:k=bs (txL t.Fs)
  ·rw [if_pos hk] at h; cases h
  ·rw [if_neg hk] at h;show (bif zlf (.string k) (.string (bs (txL t.Fs))) then _ else (.string (bs (txL t.Fs)),i)::zbat (.string k) x (zo3 (i+1) r))=_
   rw [zbc5,decide_eq_false hk,z6d k x r (i+1) (by cases hp:zGe k r with | none=>rfl | some j=>rw [hp] at h; cases h)]
   rfl
theorem z33 (t:Term):∀ (o:yB) (i:Int),zo3 i (o++[t])=zo3 i o++[(.string (bs (txL t.Fs)),i+(o.length:Int))]
 | [],i=>by simp [zo3]
 | x::r,i=>by
  have e:i+1+(r.length:Int)=i+((r.length+1:Nat):Int):=by omega
  simp only [List.cons_append,zo3,qf,z33 t r,e]
theorem z3I (y:Term):∀ (o:yB) (j:Nat) (i:Int),(o.getD j default).Fs=y.Fs->zo3 i (o.set j y)=zo3 i o
 | [],j,i,_=>rfl
 | x::r,0,i,h=>by simp only [List.set_cons_zero,zo3]; rw [show x.Fs=y.Fs from h]
 | x::r,j+1,i,h=>by simp only [List.set_cons_succ,zo3]; rw [z3I y r j (i+1) h]
theorem z9i {t:Term} (ht:GT t):∀ {o:yB},(∀ x∈o,GT x)->(match zGe (bs (txL t.Fs)) o with
  | some j=>j<o.length/\(o.getD j default).Fs=t.Fs/\zmF t o=o.set j ⟨zyh (o.getD j default).Cf t.Cf,(o.getD j default).Fs⟩
  | none=>zmF t o=o++[t])
 | [],_=>rfl
 | x::r,h=>by
  have ih:=z9i ht (o:=r) λy hy=>h y (by simp [hy])
  rw [zK7];unfold zmF;by_cases hk:bs (txL t.Fs)=bs (txL x.Fs)
  ·have e:=GT.inj ht (h x (by simp)) hk
   rw [if_pos hk,if_pos e.symm];exact ⟨by simp,e.symm,rfl⟩
  ·have e:¬ x.Fs=t.Fs:=λe=>hk (by rw [e])
   rw [if_neg hk,if_neg e];cases hp:zGe (bs (txL t.Fs)) r with
   | none=>rw [hp] at ih; simp only [Option.map_none]; rw [ih]; rfl
   | some j=>
    rw [hp] at ih;obtain ⟨i1,i2,i3⟩:=ih;simp only [Option.map_some];exact ⟨by simp; exact i1,i2,by rw [i3]; rfl⟩
theorem zbba {t:Term} (ht:GT t) {o:yB} (ho:∀ x∈o,GT x):∀ x∈zmF t o,GT x:=by
 induction o with
 | nil=>intro x hx; simp only [zmF,qh] at hx; subst hx; exact ht
 | cons y r ih=>
  intro x hx;unfold zmF at hx;split at hx
  ·rcases qd.1 hx with rfl | hx
   ·have:=ho y (by simp)
    exact ⟨z3N this.1.1 ht.1.1,this.2⟩
   ·exact ho x (by simp [hx])
  ·rcases qd.1 hx with rfl | hx
   ·exact ho x (by simp)
   ·exact ih (λz hz=>ho z (by simp [hz])) x hx
theorem z2C (t:Term):∀ o:yB,(zmF t o).length<=o.length+1
 | []=>by simp [zmF]
 | y::r=>by
  have:=z2C t r;unfold zmF;split
  ·simp
  ·simp only [qf]; omega
theorem zbbD (ts:yB) (hl:ts.length<=1000000) (h:∀ t∈ts,GT t) (n:Nat) (hn:ts.length<n):ztn n ts ts.length 0 [] []=(true,zLm ts):=by
 have hreach:zF=70368744177664:=rfl
 have h2:=zcP (W:=ztt) (z:=default) (l:=ts) (λi (out:yB)=>((),(),ts,(ts.length:Int),(i:Int),())) (λ_ out=>(zo3 0 out,out,())) (λt out=>.inl (zmF t out)) (λout=>out) (λi out=>out.length<=i/\∀ t∈out,GT t)
  (λi out hi hI=>.inl ⟨_,rfl,⟨by have:=z2C (ts.getD i default) out; omega,zbba (h _ (zn hi)) hI.2⟩,λH K D=>by
   show (zjG ts ts.length i (zo3 0 out) out).ev H K D=_;unfold zjG;have ht:=h _ (zn hi);have hp:=z9i ht hI.2;have hhas:=z69 (bs (txL (ts.getD i default).Fs)) out 0;have hget:=z7B (bs (txL (ts.getD i default).Fs)) out 0;simp only [Wy.ev_i,Wy.ev_k,Wy.ev_h,Wy.ev_bn,Wy.ev_d,tT,hi,ht.text];rw [hhas,hget,zD (by omega)]
   cases hpos:zGe (bs (txL (ts.getD i default).Fs)) out with
   | none=>
    rw [hpos] at hp;have hb:decide ((out.length+[ts.getD i default].length)*32<=zF)=true:=by simp only [qe,List.length_singleton]; omega
    simp only [Option.isSome_none,cond_false,hb,cond_true];rw [z6d _ _ _ _ hpos,hp,z33];simp
   | some j=>
    rw [hpos] at hp;obtain ⟨p1,p2,p3⟩:=hp;have hj:=hI.2 _ (zn p1);have hw:IntKind.i64.wrap ((out.getD j default).Cf+(ts.getD i default).Cf)=(out.getD j default).Cf+(ts.getD i default).Cf:=z9h ⟨by have:=hj.1.1; omega,hj.1.2⟩ ⟨by have:=ht.1.1; omega,ht.1.2⟩
    have e1:(0:Int)+(j:Int)=(j:Int):=by omega
    have e2:decide (j<out.length)=true:=decide_eq_true p1;simp only [Option.isSome_some,Option.map_some,Option.getD_some,e1,cond_true,tT,e2,hw];rw [p3,z3I ⟨zyh (out.getD j default).Cf (ts.getD i default).Cf,(out.getD j default).Fs⟩ out j 0 rfl];rfl⟩)
  (λout hI H K D=>by
   show (zjG ts ts.length ts.length (zo3 0 out) out).ev H K D=_;unfold zjG;simp only [Wy.ev_i,Wy.ev_k,tT,Nat.lt_irrefl]) n 0 [] (by omega) (by omega) ⟨by simp,λt ht=>by cases ht⟩
 rw [List.drop_zero,zcO] at h2;exact h2
theorem z9j:∀ (ts o:yB),(∀ t∈ts,GT t)->(∀ t∈o,GT t)->∀ x∈ts.foldl (λa t=>zmF t a) o,GT x
 | [],o,_,ho=>ho
 | t::r,o,h,ho=>z9j r (zmF t o) (λx hx=>h x (by simp [hx])) (zbba (h t (by simp)) ho)
theorem z3M:∀ (ts o:yB),(ts.foldl (λa t=>zmF t a) o).length<=o.length+ts.length
 | [],o=>by simp
 | t::r,o=>by
  have h1:=z3M r (zmF t o);have h2:=z2C t o;rw [List.foldl_cons,qf]; omega
theorem zZ1 (ts:yB) (hl:ts.length<=1000000) (h:∀ t∈ts,GT t):zhv ts=(true,zeC [] ts):=by
 unfold zhv zCV;have hL:=zbbD ts hl h (ts.length+(Int.ofNat ts.length).toNat +Int.toNat (0:Int)+(0:Nat)+(0:Nat)+(1:Nat)) (by omega)
 have hL:ztn (ts.length+(Int.ofNat ts.length).toNat +Int.toNat (0:Int)+(0:Nat)+(0:Nat)+(1:Nat)) ts (Int.ofNat ts.length) 0 [] []=_:=hL;rw [Wy.fin_bn,hL,cond_true];obtain ⟨hp,hd⟩:=z3x ts [] [] .nil .nil .nil;have hs:=zOB ts [] .nil;have hg:∀ x∈zLm ts,GT x:=z9j ts [] h λx hx=>by cases hx
 have hlen:(zLm ts).length<=1000000:=by have:=z3M ts []; simp at this; exact Nat.le_trans this hl
 have e:∀ x∈zLm ts,∀ y,zbV x y=(true,cT x y):=λx hx y=>zvN (hg x hx).fine (by omega) y
 have ok:SortOK zbV (zLm ts):=by
  refine ⟨by omega,λx hx y _=>by rw [e x hx],λx hx=> ?_,λx hx y hy z hz h1 h2=> ?_,λx hx y hy z hz h1 h2=> ?_,λx hx y hy h1 h2=> ?_⟩
  ·rw [e x hx]; have:=zIb (x:=x) (y:=x) rfl; simp only; omega
  ·rw [e x hx] at h1 ⊢; rw [e y hy] at h2;exact zJj h1 h2
  ·rw [e x hx] at h1 ⊢; rw [e y hy] at h2;simp only at h1 h2 ⊢;have a1:=zD2 x y;have a2:=zD2 y z;have a3:=zD2 x z;have:=zHE (zbv z.Fs) (zbv y.Fs) (zbv x.Fs) (show cT z y<=0 by omega) (show cT y x<=0 by omega)
   have:cT z x<=0:=this;omega
  ·rw [e x hx] at h1; rw [e y hy] at h2;simp only at h1 h2;have a1:=zD2 x y;have hz:x.Fs=y.Fs:=zWq (by omega)
   by_cases hxy:x=y
   ·exact hxy
   ·exfalso
    -- two terms with the same factors are one
    have hdd:Dst (zLm ts):=hd;have:=List.pairwise_iff_getElem.1 hdd;obtain ⟨i,hi,ei⟩:=List.mem_iff_getElem.1 hx;obtain ⟨j,hj,ej⟩:=List.mem_iff_getElem.1 hy;rcases Nat.lt_trichotomy i j with hij | hij | hij
    ·exact this i j hi hj hij (by rw [ei,ej]; exact hz)
    ·subst hij; exact hxy (ei.symm.trans ej)
    ·exact this j i hj hi hij (by rw [ei,ej]; exact hz.symm)
 unfold zbL z7N;simp only [Wy.fin_bn,Wy.fin_k,decide_eq_true ok,cond_true];congr 1;refine (ok.unique (hp:(zeC [] ts).Perm (zLm ts)) ?_).symm;refine hs.imp_of_mem λ{x y} hx hy hxy=> ?_
 rw [e y ((hp:(zeC [] ts).Perm (zLm ts)).mem_iff.1 hy)];have:=zD2 x y;simp only; omega
mutual
theorem z8h:∀ x:At,zeR x<=zEk x
 | ⟨_,_,a,_,i,_,_⟩=>by
  rw [zeR,zEk];have h1:=zXD a;have h2:=zT8 i;omega
theorem zNS:∀ l:yC,zbH l<=zg1 l
 | []=>by rw [zbH,zg1]; exact Nat.le_refl _
 | ⟨x,_⟩::r=>by
  rw [zbH,zg1];have h1:=z8h x;have h2:=zNS r;omega
theorem zH2:∀ l:yB,zN l<=zd8 l
 | []=>by rw [zN,zd8]; exact Nat.le_refl _
 | ⟨_,fs⟩::r=>by
  rw [zN,zd8];have h1:=zNS fs;have h2:=zH2 r;omega
theorem zXD:∀ l:yA,zeM l<=zpo l
 | []=>by rw [zeM,zpo]; exact Nat.le_refl _
 | a::r=>by
  rw [zeM,zpo];have h1:=zH2 a;have h2:=zXD r;omega
theorem zT8:∀ l:yD,zc3 l<=l.length+zkt l
 | []=>by rw [zc3,zkt]; exact Nat.zero_le _
 | ⟨_,a⟩::r=>by
  rw [zc3,zkt];have h1:=zH2 a;have h2:=zT8 r;simp only [qf];omega
end
theorem zbcc (d:Nat):zo (d+1) []:=⟨by simp,λt ht=>by cases ht⟩
def zRm (a:yB) (b:yB):Wy0 (yB×Int):=.bn (zgr a) λr3=>.i (!r3) (.k ([],1)) (.bn (zgr b) λr2=>.i (!r2) (.k ([],1)) (.i (Int.ofNat b.length==0) (.k (a,0)) (.i (Int.ofNat a.length==0) (.k ([],0)) (.bn (zoS a b) λr1=>.i (r1) (.k ([],0)) (.bn (zmi (zl5 (At.mk 1 (RowID.mk 0 0) [a,b] 0 [] 0 (Value.mk 0 0 (ByteArray.mk #[])))).2) λr0=>.k (r0.1,r0.2))))))
def zX3 (a:yB) (b:yB):=(zRm a b).fin default
def zRN (a:yB):Wy0 (yB×Int):=.bn (zgr a) λr4=>.i (!r4) (.k ([],1)) (.i (Int.ofNat a.length==0) (.k (a,0)) (.bn (zpM a) λr3=>.i (r3) (.k (a,0)) (.i (Int.ofNat a.length==1) (.bn (zh7 a) λr1=>.i (r1) (.k (zVJ.2,0)) (.bn (zmi (zl5 (At.mk 2 (RowID.mk 0 0) [a] 0 [] 0 (Value.mk 0 0 (ByteArray.mk #[])))).2) λr0=>.k (r0.1,r0.2))) (.bn (zmi (zl5 (At.mk 2 (RowID.mk 0 0) [a] 0 [] 0 (Value.mk 0 0 (ByteArray.mk #[])))).2) λr2=>.k (r2.1,r2.2)))))
def zXG (a:yB):=(zRN a).fin default
def zNP (a:yB):Wy0 (yB×Int):=.bn (zgr a) λr2=>.i (!r2) (.k ([],1)) (.i (Int.ofNat a.length==0) (.k (zVJ.2,0)) (.bn (zh7 a) λr1=>.i (r1) (.k ([],0)) (.bn (zmi (zl5 (At.mk 3 (RowID.mk 0 0) [a] 0 [] 0 (Value.mk 0 0 (ByteArray.mk #[])))).2) λr0=>.k (r0.1,r0.2))))
def zU1 (a:yB):=(zNP a).fin default
def zRt (n_:Int):Wy0 (yB):=.i (decide (n_<1)) (.k []) (.k [TO.mk (if 1152921504606846976<n_ then 1152921504606846976 else n_) []])
def zYp (n_:Int):=(zRt n_).fin default
end Go.Proofs.YtoknknbmfmddbaaGreatDoor
end
