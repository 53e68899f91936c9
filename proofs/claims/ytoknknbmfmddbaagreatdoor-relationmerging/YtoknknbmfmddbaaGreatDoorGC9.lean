/- Texts of this claim, joined (the program, its functions in plain words, and what they compute). -/
import Derived.Test.YtoknknbmfmddbaaGreatDoorGC8
set_option autoImplicit false
set_option linter.unusedVariables false
set_option linter.unusedSectionVars false
set_option linter.unusedSimpArgs false
set_option maxRecDepth 1000000
set_option maxHeartbeats 0
/- Copies are equal to what they are copied from; results within the limits. -/
noncomputable section
namespace Go.Proofs.YtoknknbmfmddbaaGreatDoor
open Go Go.Ab
section
variable (g:yB->Bool×yB)
theorem zbdW (l:yA) (hl:l.length<=1000000) (hg:∀ a∈l,g a=(true,a)) (n:Nat) (hn:l.length<n) (x0 x1 x2 x3:Int) (x4:yD) (x5 x6 x7:Int) (x8:ByteArray) (t0 t1 t2 t3 t4 t5 t6:Int) (t7:ByteArray):
  zv0 g n l.length 0 x0 x1 x2 x3 x4 x5 x6 x7 x8 t0 t1 t2 t3 t4 t5 t6 t7 l=(true,(x0,x1,x2,x3,x4,x5,x6,x7,x8,t0,t1,t2,t3,t4,t5,t6,t7,l)):=by
 have:=zcz (W:=zn0 g) (z:=default) l.length (λi=>((),(),(l.length:Int),(i:Int),())) (λ_=>((x0,x1,x2,(),x3,x4,x5,x6,x7,x8,()),(t0,t1,t2,(),t3,(),t4,t5,t6,t7,()),l,())) (λ_=>true) default (x0,x1,x2,x3,x4,x5,x6,x7,x8,t0,t1,t2,t3,t4,t5,t6,t7,l)
  (λi hi H K D=>by
   show (zgA g l.length i x0 x1 x2 x3 x4 x5 x6 x7 x8 t0 t1 t2 t3 t4 t5 t6 t7 l).ev H K D=_;unfold zgA;simp only [Wy.ev_i,Wy.ev_k,Wy.ev_h,Wy.ev_bn,Wy.ev_d,tT,hi,hg _ (zm hi)];rw [zy (by omega),zWY hi])
  (λH K D=>by
   show (zgA g l.length l.length x0 x1 x2 x3 x4 x5 x6 x7 x8 t0 t1 t2 t3 t4 t5 t6 t7 l).ev H K D=_;unfold zgA;simp only [Wy.ev_i,Wy.ev_k,tT,Nat.lt_irrefl]) n hn
 rw [show zer (λ_=>true) l.length 0=true from zdx.2 λ_ _ _=>rfl] at this
 exact this
theorem zbea (l:yD) (hl:l.length<=1000000) (hg:∀ a∈l,g a.Ann=(true,a.Ann)) (n:Nat) (hn:l.length<n) (x0 x1 x2 x3 x4 x5 x6:Int) (x7:ByteArray) (t0 t1 t2 t3 t4 t5 t6:Int) (t7:ByteArray) (b2:yA):
  zvN g n l.length 0 x0 x1 x2 x3 x4 x5 x6 x7 t0 t1 t2 t3 t4 t5 t6 t7 b2 l=(true,(x0,x1,x2,x3,x4,x5,x6,x7,t0,t1,t2,t3,t4,t5,t6,t7,b2,l)):=by
 have:=zcz (W:=znN g) (z:=default) l.length (λi=>((),(),(l.length:Int),(i:Int),())) (λ_=>((x0,x1,x2,(),x3,(),x4,x5,x6,x7,()),(t0,t1,t2,(),t3,(),t4,t5,t6,t7,()),b2,l,())) (λ_=>true) default (x0,x1,x2,x3,x4,x5,x6,x7,t0,t1,t2,t3,t4,t5,t6,t7,b2,l)
  (λi hi H K D=>by
   show (zgn g l.length i x0 x1 x2 x3 x4 x5 x6 x7 t0 t1 t2 t3 t4 t5 t6 t7 b2 l).ev H K D=_;unfold zgn;simp only [Wy.ev_i,Wy.ev_k,Wy.ev_h,Wy.ev_bn,Wy.ev_d,tT,hi,hg _ (zm hi)];have:l.set i (⟨(l.getD i default).Value,(l.getD i default).Ann⟩:Wd)=l:=zWY hi;rw [zy (by omega),this])
  (λH K D=>by
   show (zgn g l.length l.length x0 x1 x2 x3 x4 x5 x6 x7 t0 t1 t2 t3 t4 t5 t6 t7 b2 l).ev H K D=_;unfold zgn;simp only [Wy.ev_i,Wy.ev_k,tT,Nat.lt_irrefl]) n hn
 rw [show zer (λ_=>true) l.length 0=true from zdx.2 λ_ _ _=>rfl] at this
 exact this
theorem zZi (x:At) (h1:x.Ag.length<=1000000) (h2:x.Items.length<=1000000) (hg:∀ a∈x.Ag,g a=(true,a)) (hgi:∀ w∈x.Items,g w.Ann=(true,w.Ann)):ziJ g x=(true,x):=by
 have hreach:zI=70368744177664:=rfl;unfold ziJ zw2 zbN zbZ
 have e1:∀ k:Nat,k<=1000->decide (x.Ag.length*k<=zI)=true:=λk hk=>by
  have:=Nat.mul_le_mul h1 hk;simp only [qe]; omega
 have e2:∀ k:Nat,k<=1000->decide (x.Items.length*k<=zI)=true:=λk hk=>by
  have:=Nat.mul_le_mul h2 hk;simp only [qe]; omega
 simp only [Wy.fin_bn,Wy.fin_k,e1 _ (by omega:24<=1000),e2 _ (by omega:56<=1000),Int.ofNat_eq_natCast,cond_true]
 rw [zbdW g _ h1 hg _ (by omega)]
 simp only [cond_true,e2 _ (by omega:56<=1000)]
 rw [zbea g _ h2 hgi _ (by omega)]
 simp only [cond_true];cases x; rfl
theorem z5w (gx:At->Bool×At) (a:yB) (hl:a.length<=1000000) (hg:∀ t∈a,t.Fs.length<=1000000/\∀ f∈t.Fs,gx f.At=(true,f.At)):zlI gx a=(true,a):=by
 unfold zlI zAq;have:=zbeE gx a hl hg (a.length+(Int.ofNat a.length).toNat +Int.toNat (0:Int)+(0:Nat)+(1:Nat)) (by omega)
 rw [show Int.ofNat a.length=(a.length:Int) from rfl] at *
 rw [Wy.fin_bn,this]; rfl
end
theorem zX7:∀ n,
  (∀ d a,zn d a->2*d<=n->zlz n a=(true,a))/\
  (∀ d x,zc7 (zn d) x->2*d+1<=n->zlm n x=(true,x))
 | 0=>by
  refine ⟨λd a h hd=> ?_,λd x h hd=>by omega⟩
  have:d=0:=by omega
  subst this; exact h.elim
 | n+1=>by
  obtain ⟨h1,h2⟩:=zX7 n;refine ⟨λd a h hd=> ?_,λd x h hd=> ?_⟩
  ·cases d with
   | zero=>exact h.elim
   | succ d=>
    rw [zMQ];exact z5w _ a h.1 λt ht=>⟨(h.2 t ht).1,λf hf=>h2 d _ ((h.2 t ht).2 f hf) (by omega)⟩
  ·rw [zFG];exact zZi _ x h.1.1 h.1.2.1 (λa ha=>h1 d a (h.2.1 a ha) (by omega)) λw hw=>h1 d _ (h.2.2 w hw).2 (by omega)
theorem zE1 {d:Nat} {a:yB} (h:zn d a) (hd:d<=100):zgQ a=(true,a):=(zX7 1000).1 d a h (by omega)
def zlR (a:yB):yB×Int:=bif zfj a then (a,0) else ([],6)
theorem zyv {d:Nat} {a:yB} (h:zn d a) (hd:d<=100) (hs:zM a<=4611686018427387904):zek a=(true,zlR a):=by
 unfold zek zCB zlR;simp only [Wy.fin_bn,Wy.fin_i,Wy.fin_k,z1N h hd hs,zE1 h hd,cond_true];cases zfj a <;>rfl
theorem zOG {d:Nat} {a:yB} (h:zn d a) (hd:d<=100) (hs:zM a<=4611686018427387904):zsM a=(true,zlR a):=by
 unfold zsM zWz zlR;simp only [Wy.fin_bn,Wy.fin_i,Wy.fin_k,z6M h hd hs,cond_true];cases zfj a <;>rfl
def zcF (x:At):yB:=[⟨1,[⟨x,1⟩]⟩]
theorem zFp (x:At):(zfl x).2=zcF x:=by
 unfold zfl zC5;rw [At.eta]; rfl
theorem zNb (x:At):(zmd x).2=zcF x:=by
 unfold zmd zT1;rw [At.eta]; rfl
theorem zSD {d:Nat} {x:At} (h:zc7 (zn d) x):zn (d+1) (zcF x):=by
 refine ⟨by simp [zcF],λt ht=> ?_⟩
 simp only [zcF,qh] at ht;subst ht;refine ⟨by simp,λf hf=> ?_⟩
 simp only [qh] at hf;subst hf; exact h
theorem zXx (x:At):zM (zcF x)=2+ze6 x:=by
 rw [zcF,zfL,zvC,zcZ,ziq];simp only [List.length_singleton]; omega
abbrev zN9:=yD×Unit×Int×Int×Unit
abbrev zyu:=yD×Unit
abbrev z0t:=yD×Int×Int×yD
abbrev zOc:=yD×Unit×Int×Unit
def zui (l:yD) (i:Int) (k:Int) (out_:yD):Wy zN9 zyu z0t:=.i (decide (k<Int.ofNat out_.length)) (.i (decide (0<=k)&&decide (k<=IntKind.i64.wrap (k+1))&&decide (IntKind.i64.wrap (k+1)<=Int.ofNat out_.length)) (.i (decide (0<=i)&&decide (i<=IntKind.i64.wrap (i+1))&&decide (IntKind.i64.wrap (i+1)<=Int.ofNat l.length)) (.bn (zxO (List.take ((IntKind.i64.wrap (k+1)).toNat - k.toNat) (List.drop k.toNat out_)) (List.take ((IntKind.i64.wrap (i+1)).toNat - i.toNat) (List.drop i.toNat l))) λr0=>.i (decide (r0<=0)) (.h (l,(),i,(IntKind.i64.wrap (k+1)),()) (out_,())) (.k (l,i,k,out_))) .d) .d) (.k (l,i,k,out_))
def zM4 (x:zN9) (y:zyu):=zui x.1 x.2.2.1 x.2.2.2.1 y.1
def zOE (n:Nat) (l:yD) (i:Int) (k:Int) (out_:yD):=zx (zM4) default n (l,(),i,k,()) (out_,())
def ztZ (l:yD) (i:Int) (out_:yD):Wy zOc zyu (yD):=.i (decide (i<Int.ofNat l.length)) (.i (decide (0<=i)&&decide (i<Int.ofNat l.length)) (.i (Int.ofNat (l.getD i.toNat default).Ann.length==0) (.h (l,(),(IntKind.i64.wrap (i+1)),()) (out_,())) (.bn (zOE (l.length+i.toNat +Int.toNat 0+out_.length+1) l i 0 out_) λr2=>.i (decide ((0:Int)<=(0:Int))&&decide (0<=r2.2.2.1)&&decide (r2.2.2.1<=Int.ofNat r2.2.2.2.length)) (.i (decide ((0+(List.take (r2.2.2.1.toNat - Int.toNat 0) (List.drop (Int.toNat 0) r2.2.2.2)).length)*56<=zI)) (.i (decide (0<=r2.2.1)&&decide (r2.2.1<Int.ofNat r2.1.length)) (.i (decide ((([]++List.take (r2.2.2.1.toNat - Int.toNat 0) (List.drop (Int.toNat 0) r2.2.2.2)).length+[r2.1.getD r2.2.1.toNat default].length)*56<=zI)) (.i (decide (0<=r2.2.2.1)&&decide (r2.2.2.1<=Int.ofNat r2.2.2.2.length)&&decide (Int.ofNat r2.2.2.2.length<=Int.ofNat r2.2.2.2.length)) (.i (decide ((([]++List.take (r2.2.2.1.toNat - Int.toNat 0) (List.drop (Int.toNat 0) r2.2.2.2)++[r2.1.getD r2.2.1.toNat default]).length+(List.take ((Int.ofNat r2.2.2.2.length).toNat - r2.2.2.1.toNat) (List.drop r2.2.2.1.toNat r2.2.2.2)).length)*56<=zI)) (.h ((r2.1),(),(IntKind.i64.wrap (r2.2.1+1)),()) (([]++List.take (r2.2.2.1.toNat - Int.toNat 0) (List.drop (Int.toNat 0) r2.2.2.2)++[r2.1.getD r2.2.1.toNat default]++List.take ((Int.ofNat r2.2.2.2.length).toNat - r2.2.2.1.toNat) (List.drop r2.2.2.1.toNat r2.2.2.2)),())) .d) .d) .d) .d) .d) .d)) .d) (.k out_)
def zNH (x:zOc) (y:zyu):=ztZ x.1 x.2.2.1 y.1
def zN1 (n:Nat) (l:yD) (i:Int) (out_:yD):=zx (zNH) default n (l,(),i,()) (out_,())
def zQ5 (l:yD):Wy0 (yD):=.bn (zN1 (l.length+Int.toNat 0+0+1) l 0 []) λr4=>.k r4
def zLK (l:yD):=(zQ5 l).fin default
def zK9 (op:Int) (sign:Int):Wy0 (Bool):=.i (op==5) (.k (sign==0)) (.i (op==6) (.k (sign != 0)) (.i (op==7) (.k (decide (sign<0))) (.i (op==8) (.k (decide (sign<=0))) (.i (op==9) (.k (decide (sign>0))) (.i (op==10) (.k (decide (sign≥0))) (.k false))))))
def zGa (op:Int) (sign:Int):=(zK9 op sign).fin default
abbrev zRf:=Int×yD×Int×Unit×Int×Unit
abbrev z17:=Int⊕(Int×yD×Int×Value)
def zwk (fn:Int) (items:yD) (op:Int) (i:Int) (bound:Value):Wy zRf (Value×Unit) z17:=.i (decide (i<Int.ofNat items.length)) (.i (decide (0<=i)&&decide (i<Int.ofNat items.length)) (.bn (zjp (items.getD i.toNat default).Ann) λr0=>.i (!r0) (.k (.inl 1)) (.h (fn,items,op,(),(IntKind.i64.wrap (i+1)),()) (bound,()))) .d) (.k (.inr (fn,items,op,bound)))
def zQR (x:zRf) (y:Value×Unit):=zwk x.1 x.2.1 x.2.2.1 x.2.2.2.2.1 y.1
def zQ8 (n:Nat) (fn:Int) (items:yD) (op:Int) (i:Int) (bound:Value):=zx (zQR) (.inl default) n (fn,items,op,(),i,()) (bound,())
def zSV (fn:Int) (items:yD) (op:Int) (bound:Value):Wy0 (yB×Int):=.bn (zD6 fn items op bound) λr7=>.i (!r7) (.k ([],1)) (.bn (zQ8 (fn.toNat +items.length+op.toNat +Int.toNat 0+1) fn items op 0 bound) λr6=>.i (isL r6) (.k ([],getL r6)) (.bn (zLK (getR r6).2.1) λr5=>.i (Int.ofNat r5.length==0) (.i ((getR r6).1==0) (.bn (zcN 0 (getR r6).2.2.2.Int) λr3=>.bn (zGa (getR r6).2.2.1 r3) λr2=>.i (r2) (.k (zTc.2,0)) (.k ([],0))) (.k ([],0))) (.bn (zsM (zmd (At.mk 4 (RowID.mk 0 0) [] (getR r6).1 r5 (getR r6).2.2.1 (getR r6).2.2.2)).2) λr4=>.k (r4.1,r4.2))))
def zOS (fn:Int) (items:yD) (op:Int) (bound:Value):=(zSV fn items op bound).fin default
section
variable {α β ρ τ:Type} [Inhabited τ]
theorem zU2 (p:τ->Bool):∀ l:List τ,l.take (l.takeWhile p).length=l.takeWhile p
 | []=>rfl
 | x::r=>by
  rw [List.takeWhile_cons];cases p x with
  | true=>simp [zU2 p r]
  | false=>simp
theorem zU4 (p:τ->Bool):∀ l:List τ,l.drop (l.takeWhile p).length=l.dropWhile p
 | []=>rfl
 | x::r=>by
  rw [List.takeWhile_cons,List.dropWhile_cons];cases p x with
  | true=>simp [zU4 p r]
  | false=>simp
theorem zbem (p:τ->Bool) (l:List τ):(l.takeWhile p).length<=l.length:=(List.takeWhile_prefix p).length_le
theorem z1Q {W:α->β->Wy α β ρ} {z:ρ} (l:List τ) (p:τ->Bool) (ex:Nat->α) (ey:Nat->β) (res:Nat->ρ)
  (h:∀ i,i<l.length->∀ (H:α->β->Bool×ρ) K D,(W (ex i) (ey i)).ev H K D=bif p (l.getD i default) then H (ex (i+1)) (ey (i+1)) else K (res i))
  (he:∀ (H:α->β->Bool×ρ) K D,(W (ex l.length) (ey l.length)).ev H K D=K (res l.length)):
  ∀ n i,l.length<i+n->i<=l.length->zx W z n (ex i) (ey i)=(true,res (i+((l.drop i).takeWhile p).length))
 | 0,i,h1,h2=>by omega
 | n+1,i,h1,h2=>by
  show (W (ex i) (ey i)).ev (zx W z n) (λr=>(true,r)) (false,z)=_
  by_cases hi:i<l.length
  ·rw [h i hi,zbh hi,List.takeWhile_cons];cases hp:p (l.getD i default) with
   | false=>simp
   | true=>
    rw [cond_true,z1Q l p ex ey res h he n (i+1) (by omega) (by omega)]
    simp only [if_true,qf];congr 2; omega
  ·have:i=l.length:=by omega
   subst this;rw [he,zcu hi]; rfl
theorem zO2 {W:α->β->Wy α β ρ} {z:ρ} (l:List τ) (p:τ->Bool) (ex:Nat->α) (ey:Nat->β) (res:Nat->ρ)
  (h:∀ i,i<l.length->∀ (H:α->β->Bool×ρ) K D,(W (ex i) (ey i)).ev H K D=bif p (l.getD i default) then H (ex (i+1)) (ey (i+1)) else K (res i))
  (he:∀ (H:α->β->Bool×ρ) K D,(W (ex l.length) (ey l.length)).ev H K D=K (res l.length)) (n:Nat) (hn:l.length<n):
  zx W z n (ex 0) (ey 0)=(true,res (l.takeWhile p).length):=by
 have:=z1Q (z:=z) l p ex ey res h he n 0 (by omega) (by omega)
 simpa using this
def zO3 (p:τ->Bool) (x:τ) (l:List τ):List τ:=l.takeWhile p++x::l.dropWhile p
theorem z1o (p:τ->Bool) (x y:τ) (r:List τ):zO3 p x (y::r)=bif p y then y::zO3 p x r else x::y::r:=by
 unfold zO3;rw [List.takeWhile_cons,List.dropWhile_cons];cases p y <;>simp
theorem zFn (p:τ->Bool) (x:τ):∀ l:List τ,(zO3 p x l).Perm (x::l)
 | []=>.refl _
 | y::r=>by
  rw [z1o];cases p y
  ·exact .refl _
  ·exact ((zFn p x r).cons y).trans (.swap x y r)
abbrev Srt (key:τ->TT) (l:List τ):Prop:=l.Pairwise λx y=>z8 (key x) (key y)<=0
theorem z4E (key:τ->TT) (x:τ):∀ l:List τ,Srt key l->Srt key (zO3 (λy=>decide (z8 (key y) (key x)<=0)) x l)
 | [],_=>by simp [zO3]
 | y::r,h=>by
  have h:=qi.1 h;rw [z1o];by_cases hp:z8 (key y) (key x)<=0
  ·rw [decide_eq_true hp];refine qi.2 ⟨λz hz=> ?_,z4E key x r h.2⟩
   rcases qd.1 ((zFn _ x r).mem_iff.1 hz) with rfl | hz
   ·exact hp
   ·exact h.1 z hz
  ·rw [decide_eq_false hp];have hxy:z8 (key x) (key y)<=0:=by have:=zfV (key x) (key y); omega
   refine qi.2 ⟨λz hz=> ?_,qi.2 h⟩
   rcases qd.1 hz with rfl | hz
   ·exact hxy
   ·exact zsp _ _ _ hxy (h.1 z hz)
end
theorem zZJ {τ:Type} (l:List τ) (k:Nat):List.take (k - Int.toNat 0) (List.drop (Int.toNat 0) l)=l.take k:=by simp
theorem zAF {τ:Type} (l:List τ) (k:Nat):List.take ((Int.ofNat l.length).toNat - k) (List.drop k l)=l.drop k:=by
 simp only [Int.ofNat_eq_natCast,Int.toNat_natCast];rw [List.take_of_length_le (by simp)]
theorem z3n (n:Nat):(n==0)= !decide (0<n):=by cases n <;>simp
def zl1 (w:Wd):Bool:=decide (0<w.Ann.length)
def zdT (l:yD):yD:=znz zY (l.filter zl1)
theorem zJi {d:Nat} {l:yD} (hl:l.length<=1000000) (h:∀ w∈l,zn d w.Ann) (hd:d<=99):SortOK zY l:=by
 have e:∀ x∈l,∀ y,zY x y=(true,z8 (zba x) (zba y)):=λx hx y=>zjx (h x hx) hd y
 refine ⟨by omega,λx hx y _=>by rw [e x hx],λx hx=> ?_,λx hx y hy z hz h1 h2=> ?_,λx hx y hy z hz h1 h2=> ?_,λx hx y hy h1 h2=> ?_⟩
 ·rw [e x hx,zAu]; omega
 ·rw [e x hx] at h1 ⊢; rw [e y hy] at h2;have h3:=zsp _ _ _ (show z8 (zba x) (zba y)<=0 by simp only at h1; omega) (show z8 (zba y) (zba z)<=0 by simp only at h2; omega)
  simp only at h1 h2 ⊢;by_cases e0:z8 (zba x) (zba z)=0
  ·have:=zr1 _ _ e0;rw [<- this,zfV (zba x) (zba y)] at h2;omega
  ·omega
 ·rw [e x hx] at h1 ⊢; rw [e y hy] at h2;simp only at h1 h2 ⊢;have a1:=zfV (zba x) (zba y);have a2:=zfV (zba y) (zba z);have a3:=zfV (zba x) (zba z);have:=zsp (zba z) (zba y) (zba x) (by omega) (by omega)
  omega
 ·rw [e x hx] at h1; rw [e y hy] at h2;simp only at h1 h2;have a1:=zfV (zba x) (zba y);exact zY5 _ _ (zr1 _ _ (by omega))
theorem zbbR {d:Nat} (l:yD) (hl:l.length<=1000000) (h:∀ w∈l,zn d w.Ann) (hd:d<=99) (n:Nat) (hn:l.length<n):zCW n l l.length 0 []=(true,l.filter zl1):=by
 have hreach:zI=70368744177664:=rfl;have hfl:∀ i,(List.filter zl1 (l.take i)).length<=1000000:=λi=>Nat.le_trans (List.length_filter_le _ _) (Nat.le_trans (by simp; omega) hl)
 have:=zcz (W:=zwU) (z:=default) l.length (λi=>((),l,(l.length:Int),(i:Int),())) (λi=>((l.take i).filter zl1,())) (λ_=>true) default (l.filter zl1)
  (λi hi H K D=>by
   show (zlw l l.length i ((l.take i).filter zl1)).ev H K D=_;unfold zlw;have hb2:decide (((List.filter zl1 (l.take i)).length+1)*56<=zI)=true:=by have:=hfl i; simp only [qe]; omega
   have hgt:decide (((l.getD i default).Ann.length:Int)>0)=zl1 (l.getD i default):=zjQ _ 0;simp only [Wy.ev_i,Wy.ev_k,Wy.ev_h,Wy.ev_bn,Wy.ev_d,tT,hi,zE1 (h _ (zm hi)) (by omega:d<=100),hgt,List.length_singleton,hb2]
   rw [zy (by omega),zgJ hi,List.filter_append,List.filter_cons]
   cases zl1 (l.getD i default) with
   | true=>simp
   | false=>simp)
  (λH K D=>by
   show (zlw l l.length l.length ((l.take l.length).filter zl1)).ev H K D=_;unfold zlw;simp only [Wy.ev_i,Wy.ev_k,tT,Nat.lt_irrefl,List.take_length]) n hn
 rw [show zer (λ_=>true) l.length 0=true from zdx.2 λ_ _ _=>rfl] at this
 exact this
theorem z4u {d:Nat} {l:yD} (h:∀ w∈l,zn d w.Ann) (hd:d<=99) (h20:l.length<20):zZ l=(true,znz zY l):=by
 have ok:SortOK zY l:=zJi (d:=d) (by omega) h hd
 unfold zZ;simp only [decide_eq_true ok,decide_eq_true h20,Bool.and_self]
theorem zbaz {d:Nat} (l:yD) (hl:l.length<=1000000) (h:∀ w∈l,zn d w.Ann) (hd:d<=99) (h20:(l.filter zl1).length<20):zqC l=(true,zdT l):=by
 unfold zqC zEb zdT;have:=zbbR l hl h hd (l.length+(Int.ofNat l.length).toNat +Int.toNat (0:Int)+(0:Nat)+(1:Nat)) (by omega)
 rw [show Int.ofNat l.length=(l.length:Int) from rfl] at *
 rw [Wy.fin_bn,this];simp only [Wy.fin_bn,Wy.fin_k,cond_true,z4u (λw hw=>h w (List.mem_filter.1 hw).1) hd h20]
def zxi (w:Wd) (out:yD):yD:=bif zl1 w then zO3 (λy=>decide (z8 (zba y) (zba w)<=0)) w out else out
theorem z9J {d:Nat} (l:yD) (i:Nat) (hi:i<l.length) (hl:l.length<=1000000) (out:yD) (ho:out.length<=1000000) (h:∀ w∈out,zn d w.Ann) (hd:d<=99) (n:Nat) (hn:out.length<n):
  zOE n l i 0 out=(true,(l,(i:Int),(((out.takeWhile λy=>decide (z8 (zba y) (zba (l.getD i default))<=0)).length:Nat):Int),out)):=by
 exact zO2 (W:=zM4) (z:=default) out (λy=>decide (z8 (zba y) (zba (l.getD i default))<=0)) (λk=>(l,(),(i:Int),(k:Int),())) (λ_=>(out,())) (λk=>(l,(i:Int),(k:Int),out))
  (λk hk H K D=>by
   show (zui l i k out).ev H K D=_;unfold zui;have e1:(decide ((k:Int)<=((k+1:Nat):Int))&&decide (((k+1:Nat):Int)<=Int.ofNat out.length))=true:=by simp; try omega
   have e2:(decide ((i:Int)<=((i+1:Nat):Int))&&decide (((i+1:Nat):Int)<=Int.ofNat l.length))=true:=by simp; try omega
   have e3:decide ((k:Int)<Int.ofNat out.length)=true:=by simp [hk]
   simp only [Wy.ev_i,Wy.ev_k,Wy.ev_h,Wy.ev_bn,Wy.ev_d,zy (show k<4611686018427387904 by omega),zy (show i<4611686018427387904 by omega),e1,e2,e3,zez,Bool.true_and,cond_true,Int.toNat_natCast,show k+1 - k=1 by omega,show i+1 - i=1 by omega,z2N _ _ hi,z2N _ _ hk]
   rw [zAt (d:=d) (by simp) (λw hw=>by
    rw [qh] at hw; subst hw; exact h _ (zm hk)) hd,zmc,zmc]
   simp only [List.map,zbaR,cond_true])
  (λH K D=>by
   show (zui l i out.length out).ev H K D=_;unfold zui;have e3:decide ((out.length:Int)<Int.ofNat out.length)=false:=by simp
   simp only [Wy.ev_i,Wy.ev_k,e3,cond_false]) n hn
theorem z8S (w:Wd) (out:yD):(zxi w out).length<=out.length+1:=by
 unfold zxi;cases zl1 w with
 | false=>simp
 | true=>simp only [cond_true]; rw [(zFn _ w out).length_eq]; simp
theorem z8z {w y:Wd} {out:yD} (h:y∈zxi w out):y=w\/y∈out:=by
 unfold zxi at h;cases hb:zl1 w with
 | false=>rw [hb] at h; exact .inr h
 | true=>rw [hb] at h; exact qd.1 ((zFn _ w out).mem_iff.1 h)
theorem z9I {d:Nat} (l:yD) (hl:l.length<=1000000) (h:∀ w∈l,zn d w.Ann) (hd:d<=99) (n:Nat) (hn:l.length<n):zN1 n l 0 []=(true,l.foldl (λout w=>zxi w out) []):=by
 have hreach:zI=70368744177664:=rfl
 have:=zcV (W:=zNH) (z:=default) (l:=l) (λi (out:yD)=>(l,(),(i:Int),())) (λ_ out=>(out,())) (λw out=>.inl (zxi w out)) (λout=>out) (λi out=>out.length<=i/\∀ w∈out,zn d w.Ann)
  (λi out hi hI=>.inl ⟨_,rfl,⟨by have:=z8S (l.getD i default) out; omega,λw hw=>by
    rcases z8z hw with rfl | hw
    ·exact h _ (zm hi)
    ·exact hI.2 w hw⟩,λH K D=>by
   show (ztZ l i out).ev H K D=_;unfold ztZ;have e0:((l.getD i default).Ann.length==0)= !zl1 (l.getD i default):=z3n _;have e3:decide ((i:Int)<Int.ofNat l.length)=true:=by simp [hi]
   simp only [Wy.ev_i,Wy.ev_k,Wy.ev_h,Wy.ev_bn,Wy.ev_d,e3,zez,Bool.and_self,cond_true,Int.toNat_natCast,show (Int.ofNat (l.getD i default).Ann.length==(0:Int))=((l.getD i default).Ann.length==0) from zr6 _ 0,e0]
   rw [z9J l i hi hl out (by omega) hI.2 hd _ (by omega)]
   simp only [cond_true,zZJ,zAF,List.nil_append,Int.toNat_natCast,e3,zez,Bool.and_self,Int.le_refl,decide_true,Bool.true_and,Bool.and_true];have q1:=zbem (λy=>decide (z8 (zba y) (zba (l.getD i default))<=0)) out
   have q2:decide (((out.takeWhile λy=>decide (z8 (zba y) (zba (l.getD i default))<=0)).length:Int)<=Int.ofNat out.length)=true:=by simp only [qe,Int.ofNat_eq_natCast]; omega
   have hb1:decide ((0+(out.take (out.takeWhile λy=>decide (z8 (zba y) (zba (l.getD i default))<=0)).length).length)*56<=zI)=true:=by simp only [qe,List.length_take]; omega
   have hb2:decide (((out.take (out.takeWhile λy=>decide (z8 (zba y) (zba (l.getD i default))<=0)).length).length+[l.getD i default].length)*56<=zI)=true:=by simp only [qe,List.length_take,List.length_singleton]; omega
   have hb3:decide (((out.take (out.takeWhile λy=>decide (z8 (zba y) (zba (l.getD i default))<=0)).length++[l.getD i default]).length+(out.drop (out.takeWhile λy=>decide (z8 (zba y) (zba (l.getD i default))<=0)).length).length)*56<=zI)=true:=by simp only [qe,qg,List.length_take,List.length_singleton,List.length_drop]; omega
   simp only [q2,hb1,hb2,hb3,cond_true];rw [zy (by omega),zU2,zU4]
   unfold zxi zO3;cases zl1 (l.getD i default) <;>simp⟩)
  (λout hI H K D=>by
   show (ztZ l l.length out).ev H K D=_;unfold ztZ;have e3:decide ((l.length:Int)<Int.ofNat l.length)=false:=by simp
   simp only [Wy.ev_i,Wy.ev_k,e3,cond_false]) n 0 [] (by omega) (by omega) ⟨by simp,λw hw=>by cases hw⟩
 rw [List.drop_zero,zcU] at this;exact this
theorem zYS:∀ (l out:yD),(l.foldl (λout w=>zxi w out) out).Perm (l.filter zl1++out)/\(Srt zba out->Srt zba (l.foldl (λout w=>zxi w out) out))
 | [],out=>⟨.refl _,λh=>h⟩
 | w::r,out=>by
  obtain ⟨h1,h2⟩:=zYS r (zxi w out);rw [List.foldl_cons,List.filter_cons];cases hb:zl1 w with
  | false=>
   have e:zxi w out=out:=by unfold zxi; rw [hb]; rfl
   rw [e] at h1 h2 ⊢;exact ⟨by simpa using h1,h2⟩
  | true=>
   have e:zxi w out=zO3 (λy=>decide (z8 (zba y) (zba w)<=0)) w out:=by unfold zxi; rw [hb]; rfl
   rw [e] at h1 h2 ⊢;refine ⟨?_,λh=>h2 (z4E zba w out h)⟩
   simp only [if_true,List.cons_append];exact h1.trans (((zFn _ w out).append_left _).trans List.perm_middle)
theorem z8s {d:Nat} (l:yD) (hl:l.length<=1000000) (h:∀ w∈l,zn d w.Ann) (hd:d<=99):zLK l=(true,zdT l):=by
 unfold zLK zQ5;rw [Wy.fin_bn,z9I l hl h hd _ (by omega)]
 simp only [cond_true,Wy.fin_k];congr 1;obtain ⟨h1,h2⟩:=zYS l [];rw [List.append_nil] at h1;have hm:∀ w∈l.filter zl1,zn d w.Ann:=λw hw=>h w (List.mem_filter.1 hw).1
 refine (zJi (d:=d) (Nat.le_trans (List.length_filter_le _ _) hl) hm hd).unique h1 ?_;refine (h2 .nil).imp_of_mem λ{x y} hx hy hxy=> ?_
 rw [zjx (hm y (h1.mem_iff.1 hy)) hd,zfV (zba x) (zba y)];simp only; omega
def zMB (op sign:Int):Bool:=bif op==5 then sign==0 else bif op==6 then sign != 0 else bif op==7 then decide (sign<0) else bif op==8 then decide (sign<=0) else bif op==9 then decide (sign>0) else decide (sign≥0)
theorem z98 (op sign:Int):zqw op sign=(true,zMB op sign):=by
 unfold zqw zEH zMB;simp only [Wy.fin_i,Wy.fin_k];cases op==5 <;>cases op==6 <;>cases op==7 <;>cases op==8 <;>cases op==9 <;>rfl
theorem z7x {op sign:Int} (h1:5<=op) (h2:op<=10):zGa op sign=(true,zMB op sign):=by
 unfold zGa zK9 zMB;simp only [Wy.fin_i,Wy.fin_k,zf8];by_cases a1:op=5
 ·simp [a1]
 by_cases a2:op=6
 ·simp [a2]
 by_cases a3:op=7
 ·simp [a3]
 by_cases a4:op=8
 ·simp [a4]
 by_cases a5:op=9
 ·simp [a5]
 have a6:op=10:=by omega
 simp [a6]
def zL5 (fn:Int) (l:yD) (op:Int) (b:Value):At:=⟨4,⟨0,0⟩,[],fn,l,op,b⟩
def zxe (fn:Int) (items:yD) (op:Int) (b:Value):yB×Int:=
 bif !(zzk fn items op b&&items.all λw=>zS w.Ann) then ([],1) else
 bif decide (0<(zdT items).length) then zlR (zcF (zL5 fn (zdT items) op b)) else
 bif fn==0&&zMB op (zeb 0 b.Int) then ([⟨1,[]⟩],0) else ([],0)
theorem zG1 {l:yD} {w:Wd} (h:w∈zdT l):w∈l/\w.Ann≠[]:=by
 have:=(zo0 _ _).mem_iff.1 h;obtain ⟨h1,h2⟩:=List.mem_filter.1 this;refine ⟨h1,λe=> ?_⟩
 rw [zl1,e] at h2; simp at h2
theorem zY7 (l:yD):(zdT l).length=(l.filter zl1).length:=(zo0 _ _).length_eq
theorem zUL {B:Nat}:∀ l:yD,(∀ w∈l,zM w.Ann<=B)->zda l<=l.length*(B+1)
 | [],_=>by rw [zfs]; simp
 | w::r,h=>by
  rw [zh8,qf];have h1:=h w (by simp)
  have h2:=zUL r λw hw=>h w (by simp [hw])
  rw [Nat.add_mul]; omega
theorem zID {fn:Int} {l:yD} {op:Int} {b:Value} (hl:l.length<=1000000) (hf:zzk fn l op b=true) (hv:(l.all λw=>zS w.Ann)=true):zn 10 (zcF (zL5 fn (zdT l) op b))/\zM (zcF (zL5 fn (zdT l) op b))<=4611686018427387904:=by
 obtain ⟨_,hb,hit⟩:=zsk hf;have hvv:∀ w∈l,zS w.Ann=true:=λw hw=>List.all_eq_true.1 hv w hw
 have hlen:(zdT l).length<=1000000:=by rw [zY7]; exact Nat.le_trans (List.length_filter_le _ _) hl
 constructor
 ·refine zSD ⟨⟨by simp [zL5],hlen,by have:=zuL hb; simp only [zL5]; omega⟩,λy hy=>(by cases hy),λw hw=> ?_⟩
  have hm:=(zG1 hw).1;exact ⟨by have:=zuL (hit w hm).1; omega,(zeU (hvv w hm)).1⟩
 ·rw [zXx,zhj];have h1:zda (zdT l)<=(zdT l).length*(4096+1):=zUL _ λw hw=>(zeU (hvv w (zG1 hw).1)).2.1
  show 2+(zeY []+zda (zdT l))<=_;rw [zgK];have:=Nat.mul_le_mul hlen (Nat.le_refl (4096+1));omega
theorem zbb6 {d:Nat} (l:yD) (hl:l.length<=1000000) (h:∀ w∈l,zn d w.Ann/\zM w.Ann<=4611686018427387904) (hd:d<=99):zb9 l=(true, !l.all λw=>zS w.Ann):=by
 unfold zb9 zgO;have:zdg l=IG (λ(_:Unit) x=>zmU x) (l.length+(Int.ofNat l.length).toNat +Int.toNat (0:Int)+(1:Nat)) () l:=rfl
 rw [zkj (P:=λw=> !zS w.Ann) (this.trans (zHb _ _ _ _ _ (by omega) (λx hx=>by
  unfold zmU zBp;rw [Wy.fin_bn,z0Z (h x hx).1 (by omega) (h x hx).2]; rfl) (by omega)))]
 simp [List.all_eq_not_any_not]
theorem zbcu {d:Nat} (fn:Int) (l:yD) (op:Int) (b:Value) (hl:l.length<=1000000) (h:∀ w∈l,zn d w.Ann/\zM w.Ann<=4611686018427387904) (hd:d<=99) (h20:(l.filter zl1).length<20):
  znu fn l op b=(true,zxe fn l op b):=by
 unfold znu zGV zxe;have hI:=zbaz l hl (λw hw=>(h w hw).1) hd h20
 have hgt:decide (Int.ofNat (zdT l).length>0)=decide (0<(zdT l).length):=zjQ _ 0;simp only [Wy.fin_bn,Wy.fin_i,Wy.fin_k,zZr fn l op b hl,zbb6 l hl h hd,hI,cond_true,hgt];cases hf:zzk fn l op b with
 | false=>rfl
 | true=>
  cases hv:l.all λw=>zS w.Ann with
  | false=>rfl
  | true=>
   simp only [Bool.not_true,cond_false,Bool.and_self];rw [zFp];have hx:(⟨4,⟨0,0⟩,[],fn,zdT l,op,b⟩:At)=zL5 fn (zdT l) op b:=rfl;rw [hx,zyv (zID hl hf hv).1 (by omega) (zID hl hf hv).2]
   cases decide (0<(zdT l).length) with
   | true=>rfl
   | false=>
    simp only [cond_false,zvm,z98,cond_true];cases fn==0 with
    | false=>rfl
    | true=>
     cases zMB op (zeb 0 b.Int) <;>rfl
theorem zbap {d:Nat} (fn:Int) (l:yD) (op:Int) (b:Value) (hl:l.length<=1000000) (h:∀ w∈l,zn d w.Ann/\zM w.Ann<=4611686018427387904) (hd:d<=99):
  zOS fn l op b=(true,zxe fn l op b):=by
 unfold zOS zSV zxe;have hI:=z8s l hl (λw hw=>(h w hw).1) hd
 have hgt:decide (0<(zdT l).length)= !((zdT l).length==0):=by rw [z3n,Bool.not_not]
 have hL:zQ8 (fn.toNat +l.length+op.toNat +Int.toNat (0:Int)+(1:Nat)) fn l op (0:Int) b=(true,bif l.all λw=>zS w.Ann then .inr (fn,l,op,b) else .inl 1):=by
  have:=zcz (W:=zQR) (z:=.inl default) l.length (λi=>(fn,l,op,(),(i:Int),())) (λ_=>(b,())) (λi=>(λw:Wd=>zS w.Ann) (l.getD i default)) (.inl 1) (.inr (fn,l,op,b))
   (λi hi H K D=>by
    show (zwk fn l op i b).ev H K D=_;unfold zwk;have hx:=h _ (zm hi);simp only [Wy.ev_i,Wy.ev_k,Wy.ev_h,Wy.ev_bn,Wy.ev_d,tT,hi,zYe hx.1 (by omega) hx.2]
    rw [zy (by omega)]
    cases zS (l.getD i default).Ann <;>rfl)
   (λH K D=>by
    show (zwk fn l op l.length b).ev H K D=_;unfold zwk;simp only [Wy.ev_i,Wy.ev_k,tT,Nat.lt_irrefl]) (fn.toNat +l.length+op.toNat +Int.toNat (0:Int)+(1:Nat)) (by omega)
  rw [zx3 (λw:Wd=>zS w.Ann)] at this
  exact this
 simp only [Wy.fin_bn,Wy.fin_i,Wy.fin_k,z4r fn l op b hl,hL,cond_true,hgt];cases hf:zzk fn l op b with
 | false=>rfl
 | true=>
  cases hv:l.all λw=>zS w.Ann with
  | false=>rfl
  | true=>
   simp only [Bool.not_true,cond_false,cond_true,Bool.and_self,isL,getR,hI];rw [show (Int.ofNat (zdT l).length==(0:Int))=((zdT l).length==0) from zr6 _ 0,zNb]
   have hx:(⟨4,⟨0,0⟩,[],fn,zdT l,op,b⟩:At)=zL5 fn (zdT l) op b:=rfl;rw [hx,zOG (zID hl hf hv).1 (by omega) (zID hl hf hv).2]
   cases ((zdT l).length==0) with
   | false=>rfl
   | true=>
    obtain ⟨⟨_,_,o1,o2⟩,_⟩:=zsk hf;simp only [cond_false,Bool.not_true,znB,z7x o1 o2,cond_true];cases fn==0 with
    | false=>rfl
    | true=>
     cases zMB op (zeb 0 b.Int) <;>rfl
abbrev zLa:=yC×Unit×Int×Unit
abbrev zYh:=yC×Int×Fc
def zsF (l:yC) (i:Int) (f:Fc):Wy zLa (Fc×Unit) zYh:=.i (decide (i<Int.ofNat l.length)) (.i (decide (0<=i)&&decide (i<Int.ofNat l.length)) (.bn (zop (At.mk (l.getD i.toNat default).At.Kind (l.getD i.toNat default).At.Row (l.getD i.toNat default).At.Ag (l.getD i.toNat default).At.Func (l.getD i.toNat default).At.Items (l.getD i.toNat default).At.Op (l.getD i.toNat default).At.Bd) (At.mk f.At.Kind f.At.Row f.At.Ag f.At.Func f.At.Items f.At.Op f.At.Bd)) λr0=>.i (decide (r0<0)) (.h (l,(),(IntKind.i64.wrap (i+1)),()) (f,())) (.k (l,i,f))) .d) (.k (l,i,f))
def zK6 (x:zLa) (y:Fc×Unit):=zsF x.1 x.2.2.1 y.1
def zK2 (n:Nat) (l:yC) (i:Int) (f:Fc):=zx (zK6) default n (l,(),i,()) (f,())
def zNW (l:yC) (f:Fc):Wy0 (yC):=.bn (zK2 (l.length+Int.toNat 0+f.At.Ag.length+f.At.Items.length+1) l 0 (FO.mk (At.mk f.At.Kind f.At.Row f.At.Ag f.At.Func f.At.Items f.At.Op f.At.Bd) f.Exp)) λr3=>.i (decide ((0:Int)<=(0:Int))&&decide (0<=r3.2.1)&&decide (r3.2.1<=Int.ofNat r3.1.length)) (.i (decide ((0+(List.take (r3.2.1.toNat - Int.toNat 0) (List.drop (Int.toNat 0) r3.1)).length)*128<=zI)) (.i (decide (r3.2.1<Int.ofNat r3.1.length)) (.i (decide (0<=r3.2.1)&&decide (r3.2.1<Int.ofNat r3.1.length)) (.bn (zop (At.mk (r3.1.getD r3.2.1.toNat default).At.Kind (r3.1.getD r3.2.1.toNat default).At.Row (r3.1.getD r3.2.1.toNat default).At.Ag (r3.1.getD r3.2.1.toNat default).At.Func (r3.1.getD r3.2.1.toNat default).At.Items (r3.1.getD r3.2.1.toNat default).At.Op (r3.1.getD r3.2.1.toNat default).At.Bd) (At.mk r3.2.2.At.Kind r3.2.2.At.Row r3.2.2.At.Ag r3.2.2.At.Func r3.2.2.At.Items r3.2.2.At.Op r3.2.2.At.Bd)) λr2=>.i (r2==0) (.i (decide (r3.2.2.At.Kind<3)) (.i (decide (0<=r3.2.1)&&decide (r3.2.1<Int.ofNat r3.1.length)) (.i (decide ((([]++List.take (r3.2.1.toNat - Int.toNat 0) (List.drop (Int.toNat 0) r3.1)).length+[FO.mk (At.mk r3.2.2.At.Kind r3.2.2.At.Row r3.2.2.At.Ag r3.2.2.At.Func r3.2.2.At.Items r3.2.2.At.Op r3.2.2.At.Bd) (IntKind.i64.wrap ((r3.1.getD r3.2.1.toNat default).Exp+r3.2.2.Exp))].length)*128<=zI)) (.i (decide (0<=IntKind.i64.wrap (r3.2.1+1))&&decide (IntKind.i64.wrap (r3.2.1+1)<=Int.ofNat r3.1.length)&&decide (Int.ofNat r3.1.length<=Int.ofNat r3.1.length)) (.i (decide ((([]++List.take (r3.2.1.toNat - Int.toNat 0) (List.drop (Int.toNat 0) r3.1)++[FO.mk (At.mk r3.2.2.At.Kind r3.2.2.At.Row r3.2.2.At.Ag r3.2.2.At.Func r3.2.2.At.Items r3.2.2.At.Op r3.2.2.At.Bd) (IntKind.i64.wrap ((r3.1.getD r3.2.1.toNat default).Exp+r3.2.2.Exp))]).length+(List.take ((Int.ofNat r3.1.length).toNat - (IntKind.i64.wrap (r3.2.1+1)).toNat) (List.drop (IntKind.i64.wrap (r3.2.1+1)).toNat r3.1)).length)*128<=zI)) (.k ([]++List.take (r3.2.1.toNat - Int.toNat 0) (List.drop (Int.toNat 0) r3.1)++[FO.mk (At.mk r3.2.2.At.Kind r3.2.2.At.Row r3.2.2.At.Ag r3.2.2.At.Func r3.2.2.At.Items r3.2.2.At.Op r3.2.2.At.Bd) (IntKind.i64.wrap ((r3.1.getD r3.2.1.toNat default).Exp+r3.2.2.Exp))]++List.take ((Int.ofNat r3.1.length).toNat - (IntKind.i64.wrap (r3.2.1+1)).toNat) (List.drop (IntKind.i64.wrap (r3.2.1+1)).toNat r3.1))) .d) .d) .d) .d) (.i (decide ((([]++List.take (r3.2.1.toNat - Int.toNat 0) (List.drop (Int.toNat 0) r3.1)).length+[FO.mk (At.mk r3.2.2.At.Kind r3.2.2.At.Row r3.2.2.At.Ag r3.2.2.At.Func r3.2.2.At.Items r3.2.2.At.Op r3.2.2.At.Bd) r3.2.2.Exp].length)*128<=zI)) (.i (decide (0<=IntKind.i64.wrap (r3.2.1+1))&&decide (IntKind.i64.wrap (r3.2.1+1)<=Int.ofNat r3.1.length)&&decide (Int.ofNat r3.1.length<=Int.ofNat r3.1.length)) (.i (decide ((([]++List.take (r3.2.1.toNat - Int.toNat 0) (List.drop (Int.toNat 0) r3.1)++[FO.mk (At.mk r3.2.2.At.Kind r3.2.2.At.Row r3.2.2.At.Ag r3.2.2.At.Func r3.2.2.At.Items r3.2.2.At.Op r3.2.2.At.Bd) r3.2.2.Exp]).length+(List.take ((Int.ofNat r3.1.length).toNat - (IntKind.i64.wrap (r3.2.1+1)).toNat) (List.drop (IntKind.i64.wrap (r3.2.1+1)).toNat r3.1)).length)*128<=zI)) (.k ([]++List.take (r3.2.1.toNat - Int.toNat 0) (List.drop (Int.toNat 0) r3.1)++[FO.mk (At.mk r3.2.2.At.Kind r3.2.2.At.Row r3.2.2.At.Ag r3.2.2.At.Func r3.2.2.At.Items r3.2.2.At.Op r3.2.2.At.Bd) r3.2.2.Exp]++List.take ((Int.ofNat r3.1.length).toNat - (IntKind.i64.wrap (r3.2.1+1)).toNat) (List.drop (IntKind.i64.wrap (r3.2.1+1)).toNat r3.1))) .d) .d) .d)) (.i (decide ((([]++List.take (r3.2.1.toNat - Int.toNat 0) (List.drop (Int.toNat 0) r3.1)).length+[FO.mk (At.mk r3.2.2.At.Kind r3.2.2.At.Row r3.2.2.At.Ag r3.2.2.At.Func r3.2.2.At.Items r3.2.2.At.Op r3.2.2.At.Bd) r3.2.2.Exp].length)*128<=zI)) (.i (decide (0<=r3.2.1)&&decide (r3.2.1<=Int.ofNat r3.1.length)&&decide (Int.ofNat r3.1.length<=Int.ofNat r3.1.length)) (.i (decide ((([]++List.take (r3.2.1.toNat - Int.toNat 0) (List.drop (Int.toNat 0) r3.1)++[FO.mk (At.mk r3.2.2.At.Kind r3.2.2.At.Row r3.2.2.At.Ag r3.2.2.At.Func r3.2.2.At.Items r3.2.2.At.Op r3.2.2.At.Bd) r3.2.2.Exp]).length+(List.take ((Int.ofNat r3.1.length).toNat - r3.2.1.toNat) (List.drop r3.2.1.toNat r3.1)).length)*128<=zI)) (.k ([]++List.take (r3.2.1.toNat - Int.toNat 0) (List.drop (Int.toNat 0) r3.1)++[FO.mk (At.mk r3.2.2.At.Kind r3.2.2.At.Row r3.2.2.At.Ag r3.2.2.At.Func r3.2.2.At.Items r3.2.2.At.Op r3.2.2.At.Bd) r3.2.2.Exp]++List.take ((Int.ofNat r3.1.length).toNat - r3.2.1.toNat) (List.drop r3.2.1.toNat r3.1))) .d) .d) .d)) .d) (.i (decide ((([]++List.take (r3.2.1.toNat - Int.toNat 0) (List.drop (Int.toNat 0) r3.1)).length+[FO.mk (At.mk r3.2.2.At.Kind r3.2.2.At.Row r3.2.2.At.Ag r3.2.2.At.Func r3.2.2.At.Items r3.2.2.At.Op r3.2.2.At.Bd) r3.2.2.Exp].length)*128<=zI)) (.i (decide (0<=r3.2.1)&&decide (r3.2.1<=Int.ofNat r3.1.length)&&decide (Int.ofNat r3.1.length<=Int.ofNat r3.1.length)) (.i (decide ((([]++List.take (r3.2.1.toNat - Int.toNat 0) (List.drop (Int.toNat 0) r3.1)++[FO.mk (At.mk r3.2.2.At.Kind r3.2.2.At.Row r3.2.2.At.Ag r3.2.2.At.Func r3.2.2.At.Items r3.2.2.At.Op r3.2.2.At.Bd) r3.2.2.Exp]).length+(List.take ((Int.ofNat r3.1.length).toNat - r3.2.1.toNat) (List.drop r3.2.1.toNat r3.1)).length)*128<=zI)) (.k ([]++List.take (r3.2.1.toNat - Int.toNat 0) (List.drop (Int.toNat 0) r3.1)++[FO.mk (At.mk r3.2.2.At.Kind r3.2.2.At.Row r3.2.2.At.Ag r3.2.2.At.Func r3.2.2.At.Items r3.2.2.At.Op r3.2.2.At.Bd) r3.2.2.Exp]++List.take ((Int.ofNat r3.1.length).toNat - r3.2.1.toNat) (List.drop r3.2.1.toNat r3.1))) .d) .d) .d)) .d) .d
def zJf (l:yC) (f:Fc):=(zNW l f).fin default
def zRe (a:Int) (b:Int):Wy0 (Int):=.i (!decide (b=0)) (.i (decide (a>IntKind.i64.wrap (Int.tdiv 1152921504606846976 b))) (.k 1152921504606846976) (.k (IntKind.i64.wrap (a*b)))) .d
def zMl (a:Int) (b:Int):=(zRe a b).fin default
abbrev zJQ:=yB×yB×Unit×Int×Int×Unit×Int×Unit
abbrev zJp:=yB×(Int×yC×Unit)×Unit
abbrev zWM:=yB×yB×Int×Int×yB×Int×yC
abbrev zI0:=yB×yB×Unit×Int×Int×Unit
abbrev zvj:=yB×Unit
abbrev zXz:=yB×yB×Int×yB
abbrev zJ8:=yB×yB×Unit×Int×Unit
def zoj (a:yB) (b:yB) (i:Int) (k:Int) (j:Int) (out_:yB) (t_0:Int) (t_1:yC):Wy zJQ zJp zWM:=.i (decide (0<=k)&&decide (k<Int.ofNat b.length)) (.i (decide (j<Int.ofNat (b.getD k.toNat default).Fs.length)) (.i (decide (0<=k)&&decide (k<Int.ofNat b.length)) (.i (decide (0<=j)&&decide (j<Int.ofNat (b.getD k.toNat default).Fs.length)) (.bn (zJf t_1 (FO.mk (At.mk ((b.getD k.toNat default).Fs.getD j.toNat default).At.Kind ((b.getD k.toNat default).Fs.getD j.toNat default).At.Row ((b.getD k.toNat default).Fs.getD j.toNat default).At.Ag ((b.getD k.toNat default).Fs.getD j.toNat default).At.Func ((b.getD k.toNat default).Fs.getD j.toNat default).At.Items ((b.getD k.toNat default).Fs.getD j.toNat default).At.Op ((b.getD k.toNat default).Fs.getD j.toNat default).At.Bd) ((b.getD k.toNat default).Fs.getD j.toNat default).Exp)) λr0=>.h (a,b,(),i,k,(),(IntKind.i64.wrap (j+1)),()) (out_,(t_0,(r0),()),())) .d) .d) (.k (a,b,i,k,out_,t_0,t_1))) .d
def zGz (x:zJQ) (y:zJp):=zoj x.1 x.2.1 x.2.2.2.1 x.2.2.2.2.1 x.2.2.2.2.2.2.1 y.1 y.2.1.1 y.2.1.2.1
def zGY (n:Nat) (a:yB) (b:yB) (i:Int) (k:Int) (j:Int) (out_:yB) (t_0:Int) (t_1:yC):=zx (zGz) default n (a,b,(),i,k,(),j,()) (out_,(t_0,t_1,()),())
def zqt (a:yB) (b:yB) (i:Int) (k:Int) (out_:yB):Wy zI0 zvj zXz:=.i (decide (k<Int.ofNat b.length)) (.i (decide (0<=i)&&decide (i<Int.ofNat a.length)) (.i (decide (0<=k)&&decide (k<Int.ofNat b.length)) (.bn (zMl (a.getD i.toNat default).Cf (b.getD k.toNat default).Cf) λr4=>.i (decide (0<=i)&&decide (i<Int.ofNat a.length)) (.bn (zGY ((a.length+b.length+i.toNat +k.toNat +Int.toNat 0+out_.length+r4.toNat +(a.getD i.toNat default).Fs.length+1)+zgt a+zgt b+zgt out_+z38 (a.getD i.toNat default).Fs) a b i k 0 out_ r4 (a.getD i.toNat default).Fs) λr3=>.bn (zAx r3.2.2.2.2.1 (TO.mk r3.2.2.2.2.2.1 r3.2.2.2.2.2.2)) λr2=>.h ((r3.1),(r3.2.1),(),(r3.2.2.1),(IntKind.i64.wrap (r3.2.2.2.1+1)),()) ((r2),())) .d) .d) .d) (.k (a,b,i,out_))
def zJG (x:zI0) (y:zvj):=zqt x.1 x.2.1 x.2.2.2.1 x.2.2.2.2.1 y.1
def zJr (n:Nat) (a:yB) (b:yB) (i:Int) (k:Int) (out_:yB):=zx (zJG) default n (a,b,(),i,k,()) (out_,())
def zqL (a:yB) (b:yB) (i:Int) (out_:yB):Wy zJ8 zvj (yB):=.i (decide (i<Int.ofNat a.length)) (.bn (zJr ((a.length+b.length+i.toNat +Int.toNat 0+out_.length+1)+zgt a+zgt b+zgt out_) a b i 0 out_) λr8=>.h ((r8.1),(r8.2.1),(),(IntKind.i64.wrap (r8.2.2.1+1)),()) ((r8.2.2.2),())) (.k out_)
def zJo (x:zJ8) (y:zvj):=zqL x.1 x.2.1 x.2.2.2.1 y.1
def zIL (n:Nat) (a:yB) (b:yB) (i:Int) (out_:yB):=zx (zJo) default n (a,b,(),i,()) (out_,())
def zLn (a:yB) (b:yB):Wy0 (yB):=.bn (zIL ((a.length+b.length+Int.toNat 0+0+1)+zgt a+zgt b+zgt []) a b 0 []) λr10=>.k r10
def zFO (a:yB) (b:yB):=(zLn a b).fin default
def zWF (a:yB) (b:yB):Wy0 (yB×Int):=.bn (zjp a) λr3=>.i (!r3) (.k ([],1)) (.bn (zjp b) λr2=>.i (!r2) (.k ([],1)) (.bn (zFO a b) λr1=>.bn (zsM r1) λr0=>.k (r0.1,r0.2)))
def z0W (a:yB) (b:yB):=(zWF a b).fin default
def zWm (a:yB) (b:yB):Wy0 (yB×Int):=.bn (zjp a) λr3=>.i (!r3) (.k ([],1)) (.bn (zjp b) λr2=>.i (!r2) (.k ([],1)) (.bn (zAN a b) λr1=>.bn (zsM r1) λr0=>.k (r0.1,r0.2)))
def z0T (a:yB) (b:yB):=(zWm a b).fin default
def z7c (t:Term):yB->yB
 | []=>[t]
 | x::r=>if cT x t=0 then ⟨zsT x.Cf t.Cf,t.Fs⟩::r else t::x::r
def z74 (f:Fc):yC->yC
 | []=>[f]
 | x::r=>if cF x f=0 then (if f.At.Kind<3 then ⟨f.At,x.Exp+f.Exp⟩ else f)::r else f::x::r
theorem zbbT {t:Term} {l:yB} {k:Nat} (hk:k<l.length):z7c t (l.drop k)=if cT (l.getD k default) t=0 then ⟨zsT (l.getD k default).Cf t.Cf,t.Fs⟩::l.drop (k+1) else t::l.drop k:=by
 rw [zbh hk]; rfl
theorem zbb8 {f:Fc} {l:yC} {k:Nat} (hk:k<l.length):z74 f (l.drop k)=if cF (l.getD k default) f=0 then (if f.At.Kind<3 then ⟨f.At,(l.getD k default).Exp+f.Exp⟩ else f)::l.drop (k+1) else f::l.drop k:=by
 rw [zbh hk]; rfl
theorem z6v (t:Term):∀ l:yB,zg1 t l=l.takeWhile (λx=>decide (cT x t<0))++z7c t (l.dropWhile (λx=>decide (cT x t<0)))
 | []=>rfl
 | x::r=>by
  rw [List.takeWhile_cons,List.dropWhile_cons];unfold zg1;by_cases h:cT x t<0
  ·simp only [h,if_true,decide_true,List.cons_append];rw [z6v t r]
  ·simp only [h,if_false,decide_false,Bool.false_eq_true,List.nil_append]; rfl
theorem z6l (f:Fc):∀ l:yC,zFH f l=l.takeWhile (λx=>decide (cF x f<0))++z74 f (l.dropWhile (λx=>decide (cF x f<0)))
 | []=>rfl
 | x::r=>by
  rw [List.takeWhile_cons,List.dropWhile_cons];unfold zFH;by_cases h:cF x f<0
  ·simp only [h,if_true,decide_true,List.cons_append];rw [z6l f r]
  ·simp only [h,if_false,decide_false,Bool.false_eq_true,List.nil_append]; rfl
theorem z6D {a b:Int} (ha:0<=a/\a<=1152921504606846976) (hb:0<=b/\b<=1152921504606846976):IntKind.i64.wrap (a+b)=a+b:=ze5 (by omega) (by omega)
theorem z8o {τ:Type} (l:List τ) (p:τ->Bool):(l.takeWhile p).length<=l.length:=(List.takeWhile_prefix p).length_le
theorem zbdo (z:Int):(z==0)=decide (z=0):=zf8 z 0
theorem z6S {d:Nat} (l:yB) (t:Term) (hl:l.length<=1000000) (h:∀ x∈l,zfI (zn d) x.Fs) (hd:d<=99) (hc:∀ x∈l,cOK x) (ht:cOK t):zAx l t=(true,zg1 t l):=by
 have hreach:zI=70368744177664:=rfl;unfold zAx zWC
 have hL:=zO2 (W:=zJL) (z:=default) l (λx=>decide (cT x t<0)) (λk=>(l,(),(k:Int),())) (λ_=>(t,())) (λk=>(l,(k:Int),t))
  (λk hk H K D=>by
   show (zx6 l k t).ev H K D=_;unfold zx6;simp only [Wy.ev_i,Wy.ev_k,Wy.ev_h,Wy.ev_bn,Wy.ev_d,tT,hk,zrO (h _ (zm hk)) hd];rw [zy (by omega)]; rfl)
  (λH K D=>by
   show (zx6 l l.length t).ev H K D=_;unfold zx6;simp only [Wy.ev_i,Wy.ev_k,tT,Nat.lt_irrefl]) (l.length+Int.toNat (0:Int)+t.Fs.length+(1:Nat)) (by omega)
 have hL:zTJ (l.length+Int.toNat (0:Int)+t.Fs.length+(1:Nat)) l 0 t=_:=hL;rw [hL,zU7,z6v];have q1:=z8o l (λx=>decide (cT x t<0))
 have q2:=zU2 (λx=>decide (cT x t<0)) l
 have q3:=zU4 (λx=>decide (cT x t<0)) l
 generalize (l.takeWhile λx=>decide (cT x t<0)).length=k at q1 q2 q3 ⊢
 rw [<- q2, <- q3];have g1:(decide ((0:Int)<=(0:Int))&&decide ((0:Int)<=(k:Int))&&decide ((k:Int)<=Int.ofNat l.length))=true:=by simp only [qc,qe,Int.ofNat_eq_natCast]; omega
 have g2:decide ((0+(l.take k).length)*32<=zI)=true:=by simp only [qe,List.length_take]; omega
 have g4:∀ m:Nat,decide (((l.take k).length+[(⟨0,[]⟩:Term)].length)*32<=zI)=true:=λm=>by simp only [qe,List.length_take,List.length_singleton]; omega
 simp only [Wy.fin_i,Wy.fin_k,Wy.fin_bn,List.nil_append,Int.toNat_natCast,zZJ,zAF,g1,g2,cond_true];by_cases hk:k<l.length
 ·have g3:decide ((k:Int)<Int.ofNat l.length)=true:=by simp [hk]
  have g5:(decide ((0:Int)<=(k:Int))&&decide ((k:Int)<Int.ofNat l.length))=true:=by rw [g3]; simp
  have hm:=zm hk;simp only [g3,zez,Bool.and_self,cond_true,zrO (h _ hm) hd];rw [zbdo,zbbT hk];have gw:IntKind.i64.wrap ((k:Int)+1)=((k+1:Nat):Int):=zy (by omega)
  have gp:(zvt (l.getD k default).Cf t.Cf).2=zsT (l.getD k default).Cf t.Cf:=by
   unfold zvt zT0 zsT;rw [Wy.fin_k,z6D ⟨by have:=(hc _ hm).1; omega,(hc _ hm).2⟩ ⟨by have:=ht.1; omega,ht.2⟩]
  have gk:(decide ((0:Int)<=(k:Int))&&decide ((k:Int)<=Int.ofNat l.length)&&decide (Int.ofNat l.length<=Int.ofNat l.length))=true:=by simp only [qc,qe,Int.ofNat_eq_natCast]; omega
  have gk':decide ((k:Int)<=Int.ofNat l.length)=true:=by simp only [qe,Int.ofNat_eq_natCast]; omega
  have gk1':decide (((k+1:Nat):Int)<=Int.ofNat l.length)=true:=by simp only [qe,Int.ofNat_eq_natCast]; omega
  have gk1:(decide ((0:Int)<=((k+1:Nat):Int))&&decide (((k+1:Nat):Int)<=Int.ofNat l.length)&&decide (Int.ofNat l.length<=Int.ofNat l.length))=true:=by simp only [qc,qe,Int.ofNat_eq_natCast]; omega
  have gb:∀ x:Term,decide (((l.take k).length+[x].length)*32<=zI)=true:=λx=>by simp only [qe,List.length_take,List.length_singleton]; omega
  have gc:∀ (x:Term) (m:Nat),decide (((l.take k++[x]).length+(l.drop m).length)*32<=zI)=true:=λx m=>by simp only [qe,List.length_take,List.length_drop,qg,List.length_singleton]; omega
  by_cases hz:cT (l.getD k default) t=0
  ·have hz':zbn (zbr (l.getD k default).Fs) (zbr t.Fs)=0:=hz;simp only [hz,hz',if_true,decide_true,cond_true,gw,gp,zez,Bool.true_and,gk1',Int.le_refl,decide_true,cond_true,Bool.and_self,gb,gc,Int.toNat_natCast,zAF,List.append_assoc,List.singleton_append]
  ·have hz':¬ zbn (zbr (l.getD k default).Fs) (zbr t.Fs)=0:=hz;simp only [hz,hz',if_false,decide_false,cond_false,cond_true,zez,Bool.true_and,gk',Int.le_refl,decide_true,cond_true,Bool.and_self,gb,gc,List.append_assoc,List.singleton_append]
 ·have hk':k=l.length:=by omega
  have g3:decide ((k:Int)<Int.ofNat l.length)=false:=by simp [hk]
  have gk:(decide ((0:Int)<=(k:Int))&&decide ((k:Int)<=Int.ofNat l.length)&&decide (Int.ofNat l.length<=Int.ofNat l.length))=true:=by simp only [qc,qe,Int.ofNat_eq_natCast]; omega
  have gb:∀ x:Term,decide (((l.take k).length+[x].length)*32<=zI)=true:=λx=>by simp only [qe,List.length_take,List.length_singleton]; omega
  have gc:∀ (x:Term) (m:Nat),decide (((l.take k++[x]).length+(l.drop m).length)*32<=zI)=true:=λx m=>by simp only [qe,List.length_take,List.length_drop,qg,List.length_singleton]; omega
  have gk':decide ((k:Int)<=Int.ofNat l.length)=true:=by simp only [qe,Int.ofNat_eq_natCast]; omega
  simp only [g3,zez,Bool.true_and,gk',Int.le_refl,decide_true,Bool.and_self,gb,gc,cond_true,cond_false];rw [zcu hk];simp [z7c,z74]
theorem zbbM {d:Nat} (l:yC) (f:Fc) (hl:l.length<=1000000) (h:∀ x∈l,zc7 (zn d) x.At) (hd:d<=99) (hc:∀ x∈l,0<=x.Exp/\x.Exp<=1000000) (ht:0<=f.Exp/\f.Exp<=1000000):zJf l f=(true,zFH f l):=by
 have hreach:zI=70368744177664:=rfl;unfold zJf zNW
 have hL:=zO2 (W:=zK6) (z:=default) l (λx=>decide (cF x f<0)) (λk=>(l,(),(k:Int),())) (λ_=>(f,())) (λk=>(l,(k:Int),f))
  (λk hk H K D=>by
   show (zsF l k f).ev H K D=_;unfold zsF;simp only [At.eta,Wy.ev_i,Wy.ev_k,Wy.ev_h,Wy.ev_bn,Wy.ev_d,tT,hk,zva (h _ (zm hk)) hd];rw [zy (by omega)]; rfl)
  (λH K D=>by
   show (zsF l l.length f).ev H K D=_;unfold zsF;simp only [Wy.ev_i,Wy.ev_k,tT,Nat.lt_irrefl]) (l.length+Int.toNat (0:Int)+f.At.Ag.length+f.At.Items.length+(1:Nat)) (by omega)
 have hL:zK2 (l.length+Int.toNat (0:Int)+f.At.Ag.length+f.At.Items.length+(1:Nat)) l 0 f=_:=hL;rw [At.eta,show (FO.mk f.At f.Exp:Fc)=f from rfl,hL,zU7,z6l]
 have q1:=z8o l (λx=>decide (cF x f<0))
 have q2:=zU2 (λx=>decide (cF x f<0)) l
 have q3:=zU4 (λx=>decide (cF x f<0)) l
 generalize (l.takeWhile λx=>decide (cF x f<0)).length=k at q1 q2 q3 ⊢
 rw [<- q2, <- q3];have g1:(decide ((0:Int)<=(0:Int))&&decide ((0:Int)<=(k:Int))&&decide ((k:Int)<=Int.ofNat l.length))=true:=by simp only [qc,qe,Int.ofNat_eq_natCast]; omega
 have g2:decide ((0+(l.take k).length)*128<=zI)=true:=by simp only [qe,List.length_take]; omega
 have gb:∀ x:Fc,decide (((l.take k).length+[x].length)*128<=zI)=true:=λx=>by simp only [qe,List.length_take,List.length_singleton]; omega
 have gc:∀ (x:Fc) (m:Nat),decide (((l.take k++[x]).length+(l.drop m).length)*128<=zI)=true:=λx m=>by simp only [qe,List.length_take,List.length_drop,qg,List.length_singleton]; omega
 have gk:(decide ((0:Int)<=(k:Int))&&decide ((k:Int)<=Int.ofNat l.length)&&decide (Int.ofNat l.length<=Int.ofNat l.length))=true:=by simp only [qc,qe,Int.ofNat_eq_natCast]; omega
 have ef:(FO.mk f.At f.Exp:Fc)=f:=rfl;simp only [At.eta,ef,Wy.fin_i,Wy.fin_k,Wy.fin_bn,List.nil_append,Int.toNat_natCast,zZJ,zAF,g1,g2,cond_true];by_cases hk:k<l.length
 ·have g3:decide ((k:Int)<Int.ofNat l.length)=true:=by simp [hk]
  have g5:(decide ((0:Int)<=(k:Int))&&decide ((k:Int)<Int.ofNat l.length))=true:=by rw [g3]; simp
  have hm:=zm hk;simp only [g3,zez,Bool.and_self,cond_true,zva (h _ hm) hd];rw [zbdo,zbb8 hk];have gw:IntKind.i64.wrap ((k:Int)+1)=((k+1:Nat):Int):=zy (by omega)
  have gp:IntKind.i64.wrap ((l.getD k default).Exp+f.Exp)=(l.getD k default).Exp+f.Exp:=by have:=hc _ hm; exact ze5 (by omega) (by omega)
  have gk':decide ((k:Int)<=Int.ofNat l.length)=true:=by simp only [qe,Int.ofNat_eq_natCast]; omega
  have gk1':decide (((k+1:Nat):Int)<=Int.ofNat l.length)=true:=by simp only [qe,Int.ofNat_eq_natCast]; omega
  have gk1:(decide ((0:Int)<=((k+1:Nat):Int))&&decide (((k+1:Nat):Int)<=Int.ofNat l.length)&&decide (Int.ofNat l.length<=Int.ofNat l.length))=true:=by simp only [qc,qe,Int.ofNat_eq_natCast]; omega
  by_cases hz:cF (l.getD k default) f=0
  ·have hz':z8 (zdZ (l.getD k default).At) (zdZ f.At)=0:=hz;by_cases hk3:f.At.Kind<3
   ·simp only [hz,hz',hk3,if_true,decide_true,cond_true,gw,gp,zez,Bool.true_and,gk1',Int.le_refl,decide_true,cond_true,Bool.and_self,gb,gc,Int.toNat_natCast,zAF,List.append_assoc,List.singleton_append]
   ·simp only [hz,hz',hk3,if_true,if_false,decide_true,decide_false,cond_true,cond_false,gw,gp,zez,Bool.true_and,gk1',Int.le_refl,decide_true,cond_true,Bool.and_self,gb,gc,Int.toNat_natCast,zAF,List.append_assoc,List.singleton_append]
  ·have hz':¬ z8 (zdZ (l.getD k default).At) (zdZ f.At)=0:=hz;simp only [hz,hz',if_false,decide_false,cond_false,cond_true,zez,Bool.true_and,gk',Int.le_refl,decide_true,cond_true,Bool.and_self,gb,gc,List.append_assoc,List.singleton_append]
 ·have g3:decide ((k:Int)<Int.ofNat l.length)=false:=by simp [hk]
  have gk':decide ((k:Int)<=Int.ofNat l.length)=true:=by simp only [qe,Int.ofNat_eq_natCast]; omega
  simp only [g3,zez,Bool.true_and,gk',Int.le_refl,decide_true,Bool.and_self,gb,gc,cond_true,cond_false];rw [zcu hk];simp [z7c,z74]
theorem zbcS (n:Nat) (h:n<=4000000):zd1 (n:Int)=(true,[]):=by
 have hreach:zI=70368744177664:=rfl;unfold zd1 zl9;have e0:IntKind.i64.wrap ((0:Int) - 0)=0:=rfl;have e1:IntKind.i64.wrap ((n:Int) - 0)=(n:Int):=by rw [ze5 (by omega) (by omega)]; omega
 have e2:decide ((n:Int)<0)=false:=decide_eq_false (by omega)
 rw [Wy.fin_i,e2,cond_false,e0,e1];by_cases hn:(n:Int)>0
 ·have e3:(true&&(decide ((n:Int)*Int.ofNat (32:Nat)<=Int.ofNat zI)&&(decide ((n:Int)<=Int.ofNat zI)&& !Nat.beq (2:Nat) (0:Nat))))=true:=by
   simp only [qc,qe,Int.ofNat_eq_natCast];exact ⟨trivial,by rw [hreach]; omega,by rw [hreach]; omega,rfl⟩
  rw [Wy.fin_i,decide_eq_true hn,cond_true,Wy.fin_i,e3,cond_true,Wy.fin_k];simp
 ·rw [Wy.fin_i,decide_eq_false hn]; rfl
theorem zbaa (ls:yA) (hn:ls.length<=10) (h:∀ l∈ls,l.length<=300000):zdA ls=(true,ls.flatten):=by
 have hreach:zI=70368744177664:=rfl;unfold zdA zlc;have e:∀ l:yB,l∈ls->l.length<=300000:=h
 have h1:=zcV (W:=zge) (z:=default) (l:=ls) (λi (n:Nat)=>(ls,(n:Int),ls,(ls.length:Int),(i:Int),())) (λ_ _=>()) (λy n=>.inl (n+y.length)) (λn=>(ls,(n:Int))) (λi n=>n<=i*300000)
  (λi n hi hI=>.inl ⟨_,rfl,by have:=e _ (zm hi); omega,λH K D=>by
   show (zc1 ls n ls ls.length i).ev H K D=_;unfold zc1;have hle:=e _ (zm hi);have hw:IntKind.i64.wrap ((n:Int)+((ls.getD i default).length:Int))=((n+(ls.getD i default).length:Nat):Int):=znQ (by omega)
   simp only [Wy.ev_i,Wy.ev_k,Wy.ev_h,Wy.ev_bn,Wy.ev_d,tT,hi,hw];have h0:decide (((n+(ls.getD i default).length:Nat):Int)<0)=false:=decide_eq_false (by omega)
   rw [h0,zy (by omega)]; rfl⟩)
  (λn hI H K D=>by
   show (zc1 ls n ls ls.length ls.length).ev H K D=_;unfold zc1;simp only [Wy.ev_i,Wy.ev_k,tT,Nat.lt_irrefl]) (ls.length+Int.toNat (0:Int)+ls.length+(Int.ofNat ls.length).toNat +Int.toNat (0:Int)+(1:Nat)) 0 0 (by omega) (by omega) (by omega)
 rw [List.drop_zero,zcU] at h1;have h1:zkB (ls.length+Int.toNat (0:Int)+ls.length+(Int.ofNat ls.length).toNat +Int.toNat (0:Int)+(1:Nat)) ls 0 ls (Int.ofNat ls.length) 0=_:=h1
 have hb:∀ (r:yA) (n:Nat),(∀ l∈r,l.length<=300000)->r.foldl (λn (y:yB)=>n+y.length) n<=n+r.length*300000:=λr=>by
  induction r with
  | nil=>intro n _; simp
  | cons y r ih=>
   intro n hr;have q1:=ih (n+y.length) λl hl=>hr l (by simp [hl])
   have q2:=hr y (by simp)
   rw [List.foldl_cons,qf]; omega
 have hsz:=hb ls 0 h
 have h2:=zcV (W:=zfQ) (z:=default) (l:=ls) (λi (out:yB)=>((),ls,(ls.length:Int),(i:Int),())) (λ_ out=>(out,())) (λy out=>.inl (out++y)) (λout=>out) (λi out=>out.length<=i*300000)
  (λi out hi hI=>.inl ⟨_,rfl,by have:=e _ (zm hi); simp only [qg]; omega,λH K D=>by
   show (zcR ls ls.length i out).ev H K D=_;unfold zcR;have hle:=e _ (zm hi);have hr:decide ((out.length+(ls.getD i default).length)*32<=zI)=true:=by simp only [qe]; omega
   simp only [Wy.ev_i,Wy.ev_k,Wy.ev_h,Wy.ev_bn,Wy.ev_d,tT,hi,hr];rw [zy (by omega)]⟩)
  (λout hI H K D=>by
   show (zcR ls ls.length ls.length out).ev H K D=_;unfold zcR;simp only [Wy.ev_i,Wy.ev_k,tT,Nat.lt_irrefl]) (ls.length+(Int.ofNat ls.length).toNat +Int.toNat (0:Int)+([]:yB).length+(1:Nat)) 0 [] (by omega) (by omega) (by simp)
 rw [List.drop_zero,zcU] at h2;have h2:zkh (ls.length+(Int.ofNat ls.length).toNat +Int.toNat (0:Int)+([]:yB).length+(1:Nat)) ls (Int.ofNat ls.length) 0 []=_:=h2
 have hf:∀ (r:yA) (out:yB),r.foldl (λout y=>out++y) out=out++r.flatten:=λr=>by
  induction r with
  | nil=>intro out; simp
  | cons y r ih=>intro out; rw [List.foldl_cons,ih,List.flatten_cons,List.append_assoc]
 rw [Wy.fin_bn,h1,cond_true];simp only [Wy.fin_bn,zbcS _ (show ls.foldl (λn (y:yB)=>n+y.length) 0<=4000000 by have:=Nat.mul_le_mul hn (Nat.le_refl 300000); omega),cond_true,h2,Wy.fin_k]
 rw [hf]; simp
theorem zbdH (n:Nat) (h:n<=4000000):zec (n:Int)=(true,[]):=by
 have hreach:zI=70368744177664:=rfl;unfold zec zmY;have e0:IntKind.i64.wrap ((0:Int) - 0)=0:=rfl;have e1:IntKind.i64.wrap ((n:Int) - 0)=(n:Int):=by rw [ze5 (by omega) (by omega)]; omega
 have e2:decide ((n:Int)<0)=false:=decide_eq_false (by omega)
 rw [Wy.fin_i,e2,cond_false,e0,e1];by_cases hn:(n:Int)>0
 ·have e3:(true&&(decide ((n:Int)*Int.ofNat (128:Nat)<=Int.ofNat zI)&&(decide ((n:Int)<=Int.ofNat zI)&& !Nat.beq (11:Nat) (0:Nat))))=true:=by
   simp only [qc,qe,Int.ofNat_eq_natCast];exact ⟨trivial,by rw [hreach]; omega,by rw [hreach]; omega,rfl⟩
  rw [Wy.fin_i,decide_eq_true hn,cond_true,Wy.fin_i,e3,cond_true,Wy.fin_k];simp
 ·rw [Wy.fin_i,decide_eq_false hn]; rfl
theorem z9W (ls:List (yC)) (hn:ls.length<=10) (h:∀ l∈ls,l.length<=300000):zdK ls=(true,ls.flatten):=by
 have hreach:zI=70368744177664:=rfl;unfold zdK zlK;have e:∀ l:yC,l∈ls->l.length<=300000:=h
 have h1:=zcV (W:=zgu) (z:=default) (l:=ls) (λi (n:Nat)=>(ls,(n:Int),ls,(ls.length:Int),(i:Int),())) (λ_ _=>()) (λy n=>.inl (n+y.length)) (λn=>(ls,(n:Int))) (λi n=>n<=i*300000)
  (λi n hi hI=>.inl ⟨_,rfl,by have:=e _ (zm hi); omega,λH K D=>by
   show (zc4 ls n ls ls.length i).ev H K D=_;unfold zc4;have hle:=e _ (zm hi);have hw:IntKind.i64.wrap ((n:Int)+((ls.getD i default).length:Int))=((n+(ls.getD i default).length:Nat):Int):=znQ (by omega)
   simp only [Wy.ev_i,Wy.ev_k,Wy.ev_h,Wy.ev_bn,Wy.ev_d,tT,hi,hw];have h0:decide (((n+(ls.getD i default).length:Nat):Int)<0)=false:=decide_eq_false (by omega)
   rw [h0,zy (by omega)]; rfl⟩)
  (λn hI H K D=>by
   show (zc4 ls n ls ls.length ls.length).ev H K D=_;unfold zc4;simp only [Wy.ev_i,Wy.ev_k,tT,Nat.lt_irrefl]) (ls.length+Int.toNat (0:Int)+ls.length+(Int.ofNat ls.length).toNat +Int.toNat (0:Int)+(1:Nat)) 0 0 (by omega) (by omega) (by omega)
 rw [List.drop_zero,zcU] at h1;have h1:zk7 (ls.length+Int.toNat (0:Int)+ls.length+(Int.ofNat ls.length).toNat +Int.toNat (0:Int)+(1:Nat)) ls 0 ls (Int.ofNat ls.length) 0=_:=h1
 have hb:∀ (r:List (yC)) (n:Nat),(∀ l∈r,l.length<=300000)->r.foldl (λn (y:yC)=>n+y.length) n<=n+r.length*300000:=λr=>by
  induction r with
  | nil=>intro n _; simp
  | cons y r ih=>
   intro n hr;have q1:=ih (n+y.length) λl hl=>hr l (by simp [hl])
   have q2:=hr y (by simp)
   rw [List.foldl_cons,qf]; omega
 have hsz:=hb ls 0 h
 have h2:=zcV (W:=zgb) (z:=default) (l:=ls) (λi (out:yC)=>((),ls,(ls.length:Int),(i:Int),())) (λ_ out=>(out,())) (λy out=>.inl (out++y)) (λout=>out) (λi out=>out.length<=i*300000)
  (λi out hi hI=>.inl ⟨_,rfl,by have:=e _ (zm hi); simp only [qg]; omega,λH K D=>by
   show (zc0 ls ls.length i out).ev H K D=_;unfold zc0;have hle:=e _ (zm hi);have hr:decide ((out.length+(ls.getD i default).length)*128<=zI)=true:=by simp only [qe]; omega
   simp only [Wy.ev_i,Wy.ev_k,Wy.ev_h,Wy.ev_bn,Wy.ev_d,tT,hi,hr];rw [zy (by omega)]⟩)
  (λout hI H K D=>by
   show (zc0 ls ls.length ls.length out).ev H K D=_;unfold zc0;simp only [Wy.ev_i,Wy.ev_k,tT,Nat.lt_irrefl]) (ls.length+(Int.ofNat ls.length).toNat +Int.toNat (0:Int)+([]:yC).length+(1:Nat)) 0 [] (by omega) (by omega) (by simp)
 rw [List.drop_zero,zcU] at h2;have h2:zkl (ls.length+(Int.ofNat ls.length).toNat +Int.toNat (0:Int)+([]:yC).length+(1:Nat)) ls (Int.ofNat ls.length) 0 []=_:=h2
 have hf:∀ (r:List (yC)) (out:yC),r.foldl (λout y=>out++y) out=out++r.flatten:=λr=>by
  induction r with
  | nil=>intro out; simp
  | cons y r ih=>intro out; rw [List.foldl_cons,ih,List.flatten_cons,List.append_assoc]
 rw [Wy.fin_bn,h1,cond_true];simp only [Wy.fin_bn,zbdH _ (show ls.foldl (λn (y:yC)=>n+y.length) 0<=4000000 by have:=Nat.mul_le_mul hn (Nat.le_refl 300000); omega),cond_true,h2,Wy.fin_k]
 rw [hf]; simp
theorem zEl {d:Nat} (hd:d<=99):∀ (n:Nat) (a b out:yC),a.length+b.length<n->a.length+b.length+out.length<=1000000->(∀ x∈a,zc7 (zn d) x.At/\0<=x.Exp/\x.Exp<=1000000)->(∀ x∈b,0<=x.Exp/\x.Exp<=1000000)->
  ∃ a' b' out',zxM n a b out=(true,(a',b',out'))/\out'++(a'++b')=out++zbz a b/\a'.length<=a.length/\b'.length<=b.length/\out'.length<=out.length+a.length+b.length
 | 0,a,b,out,h,_,_,_=>by omega
 | n+1,a,b,out,h,hl,ha,hb=>by
  have hreach:zI=70368744177664:=rfl;show ∃ a' b' out',(zxF a b out).ev (λx y=>zxM n x.1 x.2.1 y.1) (λr=>(true,r)) (false,default)=_/\_
  unfold zxF
  match a,b,h,hl,ha,hb with
  | [],b,h,hl,ha,hb=>exact ⟨[],b,out,rfl,by rw [zbz]; simp,Nat.le_refl _,Nat.le_refl _,by omega⟩
  | x::a,[],h,hl,ha,hb=>
   have e1:decide (Int.ofNat (x::a).length>0)=true:=by simp
   refine ⟨x::a,[],out, ?_,by rw [zbz]; simp,Nat.le_refl _,Nat.le_refl _,by omega⟩
   rw [Wy.ev_i,e1,cond_true]; rfl
  | x::a,y::b,h,hl,ha,hb=>
   have hx:=ha x (by simp)
   have hy:=hb y (by simp)
   simp only [qf] at h hl;have e1:decide (Int.ofNat (x::a).length>0)=true:=by simp
   have e2:decide (Int.ofNat (y::b).length>0)=true:=by simp
   have e3:(decide ((0:Int)<=0)&&decide ((0:Int)<Int.ofNat (x::a).length))=true:=by simp
   have e4:(decide ((0:Int)<=0)&&decide ((0:Int)<Int.ofNat (y::b).length))=true:=by simp
   have e5:(x::a).getD (Int.toNat 0) default=x:=rfl;have e6:(y::b).getD (Int.toNat 0) default=y:=rfl;have e7:∀ z:Fc,decide ((out.length+[z].length)*128<=zI)=true:=λz=>by simp only [qe,List.length_singleton]; omega
   have e8:(decide ((0:Int)<=1)&&decide ((1:Int)<=Int.ofNat (x::a).length)&&decide (Int.ofNat (x::a).length<=Int.ofNat (x::a).length))=true:=by simp; omega
   have e9:(decide ((0:Int)<=1)&&decide ((1:Int)<=Int.ofNat (y::b).length)&&decide (Int.ofNat (y::b).length<=Int.ofNat (y::b).length))=true:=by simp; omega
   have e10:List.take ((Int.ofNat (x::a).length).toNat - Int.toNat 1) (List.drop (Int.toNat 1) (x::a))=a:=by rw [show Int.toNat 1=1 from rfl,zAF]; rfl
   have e11:List.take ((Int.ofNat (y::b).length).toNat - Int.toNat 1) (List.drop (Int.toNat 1) (y::b))=b:=by rw [show Int.toNat 1=1 from rfl,zAF]; rfl
   have ea:∀ z∈a,zc7 (zn d) z.At/\0<=z.Exp/\z.Exp<=1000000:=λz hz=>ha z (by simp [hz])
   have eb:∀ z∈b,0<=z.Exp/\z.Exp<=1000000:=λz hz=>hb z (by simp [hz])
   have ex:(FO.mk x.At x.Exp:Fc)=x:=rfl;have ey:(FO.mk y.At y.Exp:Fc)=y:=rfl;simp only [Wy.ev_i,Wy.ev_k,Wy.ev_h,Wy.ev_bn,Wy.ev_d,e1,e2,e3,e4,e5,e6,e7,e8,e9,e10,e11,cond_true,At.eta,zv1 hx.1 hd,zZ1,ex,ey];rw [zbz];have hcf:cF x y=z8 (zdZ x.At) (zdZ y.At):=rfl;rw [<- hcf];by_cases h1:cF x y<0
   ·simp only [h1,decide_true,cond_true,if_true];obtain ⟨a',b',out',r1,r2,r3,r4,r5⟩:=zEl hd n a (y::b) (out++[x]) (by simp only [qf]; omega) (by simp only [qf,qg,List.length_nil]; omega) ea hb
    refine ⟨a',b',out',r1,by rw [r2]; simp,by simp only [qf]; omega,by simpa using r4,by simp only [qf,qg,List.length_nil] at r5 ⊢; omega⟩
   ·by_cases h2:0<cF x y
    ·have h2':cF x y>0:=h2;simp only [h1,h2,h2',decide_true,decide_false,cond_true,cond_false,if_true,if_false];obtain ⟨a',b',out',r1,r2,r3,r4,r5⟩:=zEl hd n (x::a) b (out++[y]) (by simp only [qf]; omega) (by simp only [qf,qg,List.length_nil]; omega) ha eb
     refine ⟨a',b',out',r1,by rw [r2]; simp,by simpa using r3,by simp only [qf]; omega,by simp only [qf,qg,List.length_nil] at r5 ⊢; omega⟩
    ·have h2':¬ cF x y>0:=h2;have hw:IntKind.i64.wrap (x.Exp+y.Exp)=x.Exp+y.Exp:=ze5 (by omega) (by omega)
     simp only [h1,h2,h2',decide_false,cond_false,if_false,hw];have hk:(x.At.Kind==3||x.At.Kind==4)=decide (x.At.Kind=3\/x.At.Kind=4):=by rw [zf8,zf8, <- Bool.decide_or]
     rw [hk];by_cases h3:x.At.Kind=3\/x.At.Kind=4
     ·simp only [h3,decide_true,Bool.not_true,cond_false,if_true];obtain ⟨a',b',out',r1,r2,r3,r4,r5⟩:=zEl hd n a b (out++[x]) (by omega) (by simp only [qg,qf,List.length_nil]; omega) ea eb
      refine ⟨a',b',out',r1,by rw [r2]; simp,by simp only [qf]; omega,by simp only [qf]; omega,by simp only [qf,qg,List.length_nil] at r5 ⊢; omega⟩
     ·simp only [h3,decide_false,Bool.not_false,cond_true,if_false];obtain ⟨a',b',out',r1,r2,r3,r4,r5⟩:=zEl hd n a b (out++[⟨x.At,x.Exp+y.Exp⟩]) (by omega) (by simp only [qg,qf,List.length_nil]; omega) ea eb
      refine ⟨a',b',out',r1,by rw [r2]; simp,by simp only [qf]; omega,by simp only [qf]; omega,by simp only [qf,qg,List.length_nil] at r5 ⊢; omega⟩
theorem zbbv {d:Nat} (hd:d<=99) (a b:yC) (hl:a.length+b.length<=100000) (ha:∀ x∈a,zc7 (zn d) x.At/\0<=x.Exp/\x.Exp<=1000000) (hb:∀ x∈b,0<=x.Exp/\x.Exp<=1000000):znc a b=(true,zbz a b):=by
 unfold znc zGJ;obtain ⟨a',b',out',r1,r2,r3,r4,r5⟩:=zEl hd (a.length+b.length+(0:Nat)+(1:Nat)) a b [] (by omega) (by simp; omega) ha hb
 rw [Wy.fin_bn,r1,cond_true]
 have hc:=z9W [out',a',b'] (by simp) (λl hl'=>by
  simp only [qd,List.not_mem_nil,or_false] at hl';simp only [List.length_nil] at r5;rcases hl' with rfl | rfl | rfl <;>omega)
 simp only [Wy.fin_bn,hc,cond_true,Wy.fin_k];congr 1
 simpa using r2
theorem z4f {a b:Int} (ha:1<=a/\a<=1152921504606846976) (hb:1<=b/\b<=1152921504606846976):zp3 a b=(true,zyj a b)/\zMl a b=(true,zyj a b):=by
 obtain ⟨h1,h2⟩:=zYZ ha hb;have h0:(!decide (b=(0:Int)))=true:=by rw [decide_eq_false (by omega)]; rfl
 have hq:0<=Int.tdiv 1152921504606846976 b/\Int.tdiv 1152921504606846976 b<=1152921504606846976:=by
  rw [Int.tdiv_eq_ediv_of_nonneg (by omega)]
  exact ⟨Int.ediv_nonneg (by omega) (by omega),Int.ediv_le_self _ (by omega)⟩
 have hw:IntKind.i64.wrap (Int.tdiv 1152921504606846976 b)=Int.tdiv 1152921504606846976 b:=ze5 (by omega) (by omega)
 have key:∀ w:Int,(w=if Int.tdiv 1152921504606846976 b<a then 1152921504606846976 else IntKind.i64.wrap (a*b))->w=zyj a b:=λw e=>by
  rw [e]; unfold zyj;split
  ·rfl
  ·rename_i hn;have h3:=h2 hn;have h4:=Int.mul_nonneg (show 0<=a by omega) (show 0<=b by omega)
   exact ze5 (by omega) (by omega)
 constructor
 ·unfold zp3 zEy;rw [Wy.fin_i,h0,cond_true,Wy.fin_i,hw,Wy.fin_k,Wy.fin_k];by_cases hc:Int.tdiv 1152921504606846976 b<a
  ·rw [decide_eq_true hc,cond_true]; exact congrArg (Prod.mk true) (key _ (by rw [if_pos hc]))
  ·rw [decide_eq_false hc,cond_false]; exact congrArg (Prod.mk true) (key _ (by rw [if_neg hc]))
 ·unfold zMl zRe;rw [Wy.fin_i,h0,cond_true,Wy.fin_i,hw,Wy.fin_k,Wy.fin_k];by_cases hc:Int.tdiv 1152921504606846976 b<a
  ·rw [decide_eq_true hc,cond_true]; exact congrArg (Prod.mk true) (key _ (by rw [if_pos hc]))
  ·rw [decide_eq_false hc,cond_false]; exact congrArg (Prod.mk true) (key _ (by rw [if_neg hc]))
theorem zum {τ:Type} [Inhabited τ] {R:τ->τ->Prop} (ht:∀ x y z,R x y->R y z->R x z):∀ l:List τ,(∀ k,0<k->k<l.length->R (l.getD (k - 1) default) (l.getD k default))->l.Pairwise R
 | [],_=>.nil
 | [x],_=>by simp
 | x::y::r,h=>by
  have h1:R x y:=h 1 (by omega) (by simp)
  have h2:=zum ht (y::r) λk hk hl=>by
   have:=h (k+1) (by omega) (by simpa using hl)
   obtain ⟨j,rfl⟩:∃ j,k=j+1:=⟨k - 1,by omega⟩
   exact this
  refine qi.2 ⟨λz hz=> ?_,h2⟩
  rcases qd.1 hz with rfl | hz
  ·exact h1
  ·exact ht x y z h1 ((qi.1 h2).1 z hz)
def GF (f:Fc):Prop:=(zd8 (zbx 9) f.At=true/\zgz f.At/\f.At.Items.length<=1024)/\1<=f.Exp/\f.Exp<=1000000
def GT (t:Term):Prop:=cOK t/\t.Fs.length<=1000/\∀ f∈t.Fs,GF f
def VT (t:Term):Prop:=GT t/\Srf t.Fs/\t.Fs.length<=64/\∀ f∈t.Fs,eOK f/\f.Exp<=64
theorem zs9 {a:yB} (h:zS a=true) (hw:zgC a):Srs a/\a.length<=512/\∀ t∈a,VT t:=by
 have h9:=zXi h (Nat.le_refl 9);rw [zZp] at h;obtain ⟨w1,w2,w3,w4⟩:=zvy (zEC h);have hall:=h;simp only [zwN,qc] at hall;refine ⟨zum (R:=λx y=>cT x y<0) (λx y z h1 h2=>zJ4 h1 h2) a λk hk hl=> ?_,w1,λt ht=> ?_⟩
 ·have:=zdx.1 hall.2 k (by omega) (by omega)
  simp only [zCk,qc,Bool.or_eq_true,qe] at this;rcases this.1.2 with e | e
  ·omega
  ·exact e
 ·obtain ⟨hc,hok⟩:=zuO h ht;obtain ⟨l1,l2⟩:=w4 t ht;have hwt:=znO (zvr (zsd hw t ht)).2.1;refine ⟨⟨hc,by omega,λf hf=> ?_⟩,zum (R:=λx y=>cF x y<0) (λx y z h1 h2=>zDg h1 h2) _ λk hk hl=> ?_,l1,λf hf=> ?_⟩
  ·obtain ⟨⟨e1,_⟩,hv⟩:=zo3 hok hf;exact ⟨⟨by rw [z8J (Nat.le_refl 9)]; exact hv,(zqN (hwt f hf)).1,(l2 f hf).2⟩,e1,by have:=(l2 f hf).1; omega⟩
  ·have:=zdx.1 hok k (by omega) (by omega)
   simp only [zMf,qc,Bool.or_eq_true,qe] at this;rcases this.1.2 with e | e
   ·omega
   ·exact e
  ·obtain ⟨⟨_,e2⟩,hv⟩:=zo3 hok hf;exact ⟨⟨zBV hv,e2⟩,(l2 f hf).1⟩
theorem zvG {m:Nat} {x:At} (h:zd8 (zbx m) x=true) (hi:x.Items.length<=1024):zc7 (zn 9) x:=by
 cases zdv.1 h with
 | var r h=>exact ⟨⟨by simp,by simp,by show (ByteArray.mk #[]).size<=_; decide⟩,λa ha=>(by cases ha),λw hw=>(by cases hw)⟩
 | mon b c hb hc _ _ _=>
  refine ⟨⟨by simp,by simp,by show (ByteArray.mk #[]).size<=_; decide⟩,λy hy=> ?_,λw hw=>(by cases hw)⟩
  simp only [qd,List.not_mem_nil,or_false] at hy;rcases hy with rfl | rfl
  ·exact (zeU hb).1
  ·exact (zeU hc).1
 | del b hb _ _ _=>
  refine ⟨⟨by simp,by simp,by show (ByteArray.mk #[]).size<=_; decide⟩,λy hy=> ?_,λw hw=>(by cases hw)⟩
  rw [qh] at hy; subst hy; exact (zeU hb).1
 | abs b hb _ _=>
  refine ⟨⟨by simp,by simp,by show (ByteArray.mk #[]).size<=_; decide⟩,λy hy=> ?_,λw hw=>(by cases hw)⟩
  rw [qh] at hy; subst hy; exact (zeU hb).1
 | tst f l o b hl hv hs hf=>
  obtain ⟨_,hb,hit⟩:=zsk hf;simp only at hi;exact ⟨⟨by simp,by simp only; omega,by have:=zuL hb; simp only; omega⟩,λa ha=>(by cases ha),λw hw=>⟨by have:=zuL (hit w hw).1; omega,(zeU (hv w hw).1).1⟩⟩
theorem GT.fine {t:Term} (h:GT t):zfI (zn 9) t.Fs:=⟨by have:=h.2.1; omega,λf hf=>zvG (h.2.2 f hf).1.1 (h.2.2 f hf).1.2.2⟩
theorem GF.gF {f:Fc} (h:GF f):gF (zbx 9) f:=⟨h.1.1,h.1.2.1,by constructor <;>(have:=h.2; omega)⟩
theorem GT.text {t:Term} (h:GT t):zqq t.Fs=(true,bs (txL t.Fs)):=
 (z3G 1000).2.2 9 t.Fs h.2.1 (λf hf=>⟨(h.2.2 f hf).1.1,(h.2.2 f hf).1.2.1,(h.2.2 f hf).1.2.2,(h.2.2 f hf).gF.2.2⟩) (by omega)
theorem GT.inj {s t:Term} (hs:GT s) (ht:GT t) (h:bs (txL s.Fs)=bs (txL t.Fs)):s.Fs=t.Fs:=
 zbbq (λf hf=>(hs.2.2 f hf).gF) (λf hf=>(ht.2.2 f hf).gF) (zbcY h)
def zoH:Int->yB->List (Go.Value×Int)
 | _,[]=>[]
 | i,t::r=>(.string (bs (txL t.Fs)),i)::zoH (i+1) r
def zGe (k:ByteArray):yB->Option Nat
 | []=>none
 | t::r=>if k=bs (txL t.Fs) then some 0 else (zGe k r).map (· +1)
theorem zLq (k:ByteArray) (t:Term) (r:yB):zGe k (t::r)=if k=bs (txL t.Fs) then some 0 else (zGe k r).map (· +1):=rfl
theorem zbac (a b:ByteArray):zlk (.string a) (.string b)=decide (a=b):=by
 cases a with | mk x=>cases b with | mk y=>
 show (x==y)=_;by_cases h:x=y
 ·subst h; simp
 ·have:(x==y)=false:=by rw [beq_eq_false_iff_ne]; exact h
  rw [this]; simp [h]
theorem z3a (k:ByteArray):∀ (o:yB) (i:Int),z73 (.string k) (zoH i o)=(zGe k o).isSome
 | [],i=>rfl
 | t::r,i=>by
  show (bif zlk (.string k) (.string (bs (txL t.Fs))) then true else z73 (.string k) (zoH (i+1) r))=_
  rw [zbac,z3a k r,zLq];by_cases h:k=bs (txL t.Fs)
  ·rw [decide_eq_true h,if_pos h]; rfl
  ·rw [decide_eq_false h,if_neg h]; cases zGe k r <;>rfl
theorem z4A (k:ByteArray):∀ (o:yB) (i:Int),zB9 (.string k) (zoH i o)=(zGe k o).map λj:Nat=>i+(j:Int)
 | [],i=>rfl
 | t::r,i=>by
  show (bif zlk (.string k) (.string (bs (txL t.Fs))) then some i else zB9 (.string k) (zoH (i+1) r))=_
  rw [zbac,z4A k r,zLq];by_cases h:k=bs (txL t.Fs)
  ·rw [decide_eq_true h,if_pos h]; simp
  ·rw [decide_eq_false h,if_neg h];cases zGe k r with
   | none=>rfl
   | some j=>
    have e:i+1+(j:Int)=i+((j+1:Nat):Int):=by omega
    simp only [cond_false,Option.map_some,e]
theorem z3w (k:ByteArray) (x:Int):∀ (o:yB) (i:Int),zGe k o=none->z62 (.string k) x (zoH i o)=zoH i o++[(.string k,x)]
 | [],i,_=>rfl
 | t::r,i,h=>by
  rw [zLq] at h;by_cases hk:k=bs (txL t.Fs)
  ·rw [if_pos hk] at h; cases h
  ·rw [if_neg hk] at h;show (bif zlk (.string k) (.string (bs (txL t.Fs))) then _ else (.string (bs (txL t.Fs)),i)::z62 (.string k) x (zoH (i+1) r))=_
   rw [zbac,decide_eq_false hk,z3w k x r (i+1) (by cases hp:zGe k r with | none=>rfl | some j=>rw [hp] at h; cases h)]
   rfl
theorem z1g (t:Term):∀ (o:yB) (i:Int),zoH i (o++[t])=zoH i o++[(.string (bs (txL t.Fs)),i+(o.length:Int))]
 | [],i=>by simp [zoH]
 | x::r,i=>by
  have e:i+1+(r.length:Int)=i+((r.length+1:Nat):Int):=by omega
  simp only [List.cons_append,zoH,qf,z1g t r,e]
theorem z1C (y:Term):∀ (o:yB) (j:Nat) (i:Int),(o.getD j default).Fs=y.Fs->zoH i (o.set j y)=zoH i o
 | [],j,i,_=>rfl
 | x::r,0,i,h=>by simp only [List.set_cons_zero,zoH]; rw [show x.Fs=y.Fs from h]
 | x::r,j+1,i,h=>by simp only [List.set_cons_succ,zoH]; rw [z1C y r j (i+1) h]
theorem z6f {t:Term} (ht:GT t):∀ {o:yB},(∀ x∈o,GT x)->(match zGe (bs (txL t.Fs)) o with
  | some j=>j<o.length/\(o.getD j default).Fs=t.Fs/\zmt t o=o.set j ⟨zsT (o.getD j default).Cf t.Cf,(o.getD j default).Fs⟩
  | none=>zmt t o=o++[t])
 | [],_=>rfl
 | x::r,h=>by
  have ih:=z6f ht (o:=r) λy hy=>h y (by simp [hy])
  rw [zLq];unfold zmt;by_cases hk:bs (txL t.Fs)=bs (txL x.Fs)
  ·have e:=GT.inj ht (h x (by simp)) hk
   rw [if_pos hk,if_pos e.symm];exact ⟨by simp,e.symm,rfl⟩
  ·have e:¬ x.Fs=t.Fs:=λe=>hk (by rw [e])
   rw [if_neg hk,if_neg e];cases hp:zGe (bs (txL t.Fs)) r with
   | none=>rw [hp] at ih; simp only [Option.map_none]; rw [ih]; rfl
   | some j=>
    rw [hp] at ih;obtain ⟨i1,i2,i3⟩:=ih;simp only [Option.map_some];exact ⟨by simp; exact i1,i2,by rw [i3]; rfl⟩
theorem z87 {t:Term} (ht:GT t) {o:yB} (ho:∀ x∈o,GT x):∀ x∈zmt t o,GT x:=by
 induction o with
 | nil=>intro x hx; simp only [zmt,qh] at hx; subst hx; exact ht
 | cons y r ih=>
  intro x hx;unfold zmt at hx;split at hx
  ·rcases qd.1 hx with rfl | hx
   ·have:=ho y (by simp)
    exact ⟨z1w this.1.1 ht.1.1,this.2⟩
   ·exact ho x (by simp [hx])
  ·rcases qd.1 hx with rfl | hx
   ·exact ho x (by simp)
   ·exact ih (λz hz=>ho z (by simp [hz])) x hx
theorem z0L (t:Term):∀ o:yB,(zmt t o).length<=o.length+1
 | []=>by simp [zmt]
 | y::r=>by
  have:=z0L t r;unfold zmt;split
  ·simp
  ·simp only [qf]; omega
theorem z8j (ts:yB) (hl:ts.length<=1000000) (h:∀ t∈ts,GT t) (n:Nat) (hn:ts.length<n):ztL n ts ts.length 0 [] []=(true,zLj ts):=by
 have hreach:zI=70368744177664:=rfl
 have h2:=zcV (W:=zt0) (z:=default) (l:=ts) (λi (out:yB)=>((),(),ts,(ts.length:Int),(i:Int),())) (λ_ out=>(zoH 0 out,out,())) (λt out=>.inl (zmt t out)) (λout=>out) (λi out=>out.length<=i/\∀ t∈out,GT t)
  (λi out hi hI=>.inl ⟨_,rfl,⟨by have:=z0L (ts.getD i default) out; omega,z87 (h _ (zm hi)) hI.2⟩,λH K D=>by
   show (zjH ts ts.length i (zoH 0 out) out).ev H K D=_;unfold zjH;have ht:=h _ (zm hi);have hp:=z6f ht hI.2;have hhas:=z3a (bs (txL (ts.getD i default).Fs)) out 0;have hget:=z4A (bs (txL (ts.getD i default).Fs)) out 0;simp only [Wy.ev_i,Wy.ev_k,Wy.ev_h,Wy.ev_bn,Wy.ev_d,tT,hi,ht.text];rw [hhas,hget,zy (by omega)]
   cases hpos:zGe (bs (txL (ts.getD i default).Fs)) out with
   | none=>
    rw [hpos] at hp;have hb:decide ((out.length+[ts.getD i default].length)*32<=zI)=true:=by simp only [qe,List.length_singleton]; omega
    simp only [Option.isSome_none,cond_false,hb,cond_true];rw [z3w _ _ _ _ hpos,hp,z1g];simp
   | some j=>
    rw [hpos] at hp;obtain ⟨p1,p2,p3⟩:=hp;have hj:=hI.2 _ (zm p1);have hw:IntKind.i64.wrap ((out.getD j default).Cf+(ts.getD i default).Cf)=(out.getD j default).Cf+(ts.getD i default).Cf:=z6D ⟨by have:=hj.1.1; omega,hj.1.2⟩ ⟨by have:=ht.1.1; omega,ht.1.2⟩
    have e1:(0:Int)+(j:Int)=(j:Int):=by omega
    have e2:decide (j<out.length)=true:=decide_eq_true p1;simp only [Option.isSome_some,Option.map_some,Option.getD_some,e1,cond_true,tT,e2,hw];rw [p3,z1C ⟨zsT (out.getD j default).Cf (ts.getD i default).Cf,(out.getD j default).Fs⟩ out j 0 rfl];rfl⟩)
  (λout hI H K D=>by
   show (zjH ts ts.length ts.length (zoH 0 out) out).ev H K D=_;unfold zjH;simp only [Wy.ev_i,Wy.ev_k,tT,Nat.lt_irrefl]) n 0 [] (by omega) (by omega) ⟨by simp,λt ht=>by cases ht⟩
 rw [List.drop_zero,zcU] at h2;exact h2
theorem z6O:∀ (ts o:yB),(∀ t∈ts,GT t)->(∀ t∈o,GT t)->∀ x∈ts.foldl (λa t=>zmt t a) o,GT x
 | [],o,_,ho=>ho
 | t::r,o,h,ho=>z6O r (zmt t o) (λx hx=>h x (by simp [hx])) (z87 (h t (by simp)) ho)
theorem z1a:∀ (ts o:yB),(ts.foldl (λa t=>zmt t a) o).length<=o.length+ts.length
 | [],o=>by simp
 | t::r,o=>by
  have h1:=z1a r (zmt t o);have h2:=z0L t o;rw [List.foldl_cons,qf]; omega
theorem zYU (ts:yB) (hl:ts.length<=1000000) (h:∀ t∈ts,GT t):zhR ts=(true,zcp [] ts):=by
 unfold zhR zBv;have hL:=z8j ts hl h (ts.length+(Int.ofNat ts.length).toNat +Int.toNat (0:Int)+(0:Nat)+(0:Nat)+(1:Nat)) (by omega)
 have hL:ztL (ts.length+(Int.ofNat ts.length).toNat +Int.toNat (0:Int)+(0:Nat)+(0:Nat)+(1:Nat)) ts (Int.ofNat ts.length) 0 [] []=_:=hL;rw [Wy.fin_bn,hL,cond_true];obtain ⟨hp,hd⟩:=z1d ts [] [] .nil .nil .nil;have hs:=zNM ts [] .nil;have hg:∀ x∈zLj ts,GT x:=z6O ts [] h λx hx=>by cases hx
 have hlen:(zLj ts).length<=1000000:=by have:=z1a ts []; simp at this; exact Nat.le_trans this hl
 have e:∀ x∈zLj ts,∀ y,zbX x y=(true,cT x y):=λx hx y=>zvJ (hg x hx).fine (by omega) y
 have ok:SortOK zbX (zLj ts):=by
  refine ⟨by omega,λx hx y _=>by rw [e x hx],λx hx=> ?_,λx hx y hy z hz h1 h2=> ?_,λx hx y hy z hz h1 h2=> ?_,λx hx y hy h1 h2=> ?_⟩
  ·rw [e x hx]; have:=zys (x:=x) (y:=x) rfl; simp only; omega
  ·rw [e x hx] at h1 ⊢; rw [e y hy] at h2;exact zJ4 h1 h2
  ·rw [e x hx] at h1 ⊢; rw [e y hy] at h2;simp only at h1 h2 ⊢;have a1:=zAQ x y;have a2:=zAQ y z;have a3:=zAQ x z;have:=zHt (zbr z.Fs) (zbr y.Fs) (zbr x.Fs) (show cT z y<=0 by omega) (show cT y x<=0 by omega)
   have:cT z x<=0:=this;omega
  ·rw [e x hx] at h1; rw [e y hy] at h2;simp only at h1 h2;have a1:=zAQ x y;have hz:x.Fs=y.Fs:=zOv (by omega)
   by_cases hxy:x=y
   ·exact hxy
   ·exfalso
    -- two terms with the same factors are one
    have hdd:Dst (zLj ts):=hd;have:=List.pairwise_iff_getElem.1 hdd;obtain ⟨i,hi,ei⟩:=List.mem_iff_getElem.1 hx;obtain ⟨j,hj,ej⟩:=List.mem_iff_getElem.1 hy;rcases Nat.lt_trichotomy i j with hij | hij | hij
    ·exact this i j hi hj hij (by rw [ei,ej]; exact hz)
    ·subst hij; exact hxy (ei.symm.trans ej)
    ·exact this j i hj hi hij (by rw [ei,ej]; exact hz.symm)
 unfold zbJ z4M;simp only [Wy.fin_bn,Wy.fin_k,decide_eq_true ok,cond_true];congr 1;refine (ok.unique (hp:(zcp [] ts).Perm (zLj ts)) ?_).symm;refine hs.imp_of_mem λ{x y} hx hy hxy=> ?_
 rw [e y ((hp:(zcp [] ts).Perm (zLj ts)).mem_iff.1 hy)];have:=zAQ x y;simp only; omega
mutual
theorem z5l:∀ x:At,ze6 x<=zDu x
 | ⟨_,_,a,_,i,_,_⟩=>by
  rw [ze6,zDu];have h1:=zV2 a;have h2:=zTq i;omega
theorem zNp:∀ l:yC,zbH l<=zha l
 | []=>by rw [zbH,zha]; exact Nat.le_refl _
 | ⟨x,_⟩::r=>by
  rw [zbH,zha];have h1:=z5l x;have h2:=zNp r;omega
theorem zHv:∀ l:yB,zM l<=zel l
 | []=>by rw [zM,zel]; exact Nat.le_refl _
 | ⟨_,fs⟩::r=>by
  rw [zM,zel];have h1:=zNp fs;have h2:=zHv r;omega
theorem zV2:∀ l:yA,zeY l<=zpJ l
 | []=>by rw [zeY,zpJ]; exact Nat.le_refl _
 | a::r=>by
  rw [zeY,zpJ];have h1:=zHv a;have h2:=zV2 r;omega
theorem zTq:∀ l:yD,zda l<=l.length+zkM l
 | []=>by rw [zda,zkM]; exact Nat.zero_le _
 | ⟨_,a⟩::r=>by
  rw [zda,zkM];have h1:=zHv a;have h2:=zTq r;simp only [qf];omega
end
theorem zbak (d:Nat):zn (d+1) []:=⟨by simp,λt ht=>by cases ht⟩
def zRj (a:yB) (b:yB):Wy0 (yB×Int):=.bn (zjp a) λr3=>.i (!r3) (.k ([],1)) (.bn (zjp b) λr2=>.i (!r2) (.k ([],1)) (.i (Int.ofNat b.length==0) (.k (a,0)) (.i (Int.ofNat a.length==0) (.k ([],0)) (.bn (zoQ a b) λr1=>.i (r1) (.k ([],0)) (.bn (zsM (zmd (At.mk 1 (RowID.mk 0 0) [a,b] 0 [] 0 (Value.mk 0 0 (ByteArray.mk #[])))).2) λr0=>.k (r0.1,r0.2))))))
def zWs (a:yB) (b:yB):=(zRj a b).fin default
def zQV (a:yB):Wy0 (yB×Int):=.bn (zjp a) λr4=>.i (!r4) (.k ([],1)) (.i (Int.ofNat a.length==0) (.k (a,0)) (.bn (zye a) λr3=>.i (r3) (.k (a,0)) (.i (Int.ofNat a.length==1) (.bn (zl5 a) λr1=>.i (r1) (.k (zTc.2,0)) (.bn (zsM (zmd (At.mk 2 (RowID.mk 0 0) [a] 0 [] 0 (Value.mk 0 0 (ByteArray.mk #[])))).2) λr0=>.k (r0.1,r0.2))) (.bn (zsM (zmd (At.mk 2 (RowID.mk 0 0) [a] 0 [] 0 (Value.mk 0 0 (ByteArray.mk #[])))).2) λr2=>.k (r2.1,r2.2)))))
def zWJ (a:yB):=(zQV a).fin default
def zOj (a:yB):Wy0 (yB×Int):=.bn (zjp a) λr2=>.i (!r2) (.k ([],1)) (.i (Int.ofNat a.length==0) (.k (zTc.2,0)) (.bn (zl5 a) λr1=>.i (r1) (.k ([],0)) (.bn (zsM (zmd (At.mk 3 (RowID.mk 0 0) [a] 0 [] 0 (Value.mk 0 0 (ByteArray.mk #[])))).2) λr0=>.k (r0.1,r0.2))))
def zUv (a:yB):=(zOj a).fin default
def zQ9 (n_:Int):Wy0 (yB):=.i (decide (n_<1)) (.k []) (.k [TO.mk (if 1152921504606846976<n_ then 1152921504606846976 else n_) []])
def zWh (n_:Int):=(zQ9 n_).fin default
end Go.Proofs.YtoknknbmfmddbaaGreatDoor
end
