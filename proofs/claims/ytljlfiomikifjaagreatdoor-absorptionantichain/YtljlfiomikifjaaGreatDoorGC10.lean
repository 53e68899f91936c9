/- Texts of this claim, joined (the program, its functions in plain words, and what they compute). -/
import Derived.Test.YtljlfiomikifjaaGreatDoorGC9
set_option autoImplicit false
set_option linter.unusedVariables false
set_option linter.unusedSectionVars false
set_option linter.unusedSimpArgs false
set_option maxRecDepth 1000000
set_option maxHeartbeats 0
noncomputable section
namespace Go.Proofs.YtljlfiomikifjaaGreatDoor
open Go Go.Ab
abbrev zXq:=Int×yE×Int×Unit×Int×Unit
abbrev z95:=Int⊕(Int×yE×Int×Value)
def zzP (fn:Int) (items:yE) (op:Int) (i:Int) (bound:Value):Wy zXq (Value×Unit) z95:=.i (decide (i<Int.ofNat items.length)) (.i (decide (0<=i)&&decide (i<Int.ofNat items.length)) (.bn (zgv (items.getD i.toNat default).Ann) λr0=>.i (!r0) (.k (.inl 1)) (.h (fn,items,op,(),(IntKind.i64.wrap (i+1)),()) (bound,()))) .d) (.k (.inr (fn,items,op,bound)))
def zW2 (x:zXq) (y:Value×Unit):=zzP x.1 x.2.1 x.2.2.1 x.2.2.2.2.1 y.1
def zW6 (n:Nat) (fn:Int) (items:yE) (op:Int) (i:Int) (bound:Value):=zC (zW2) (.inl default) n (fn,items,op,(),i,()) (bound,())
def zYH (fn:Int) (items:yE) (op:Int) (bound:Value):Wy0 (yC×Int):=.bn (zAF fn items op bound) λr7=>.i (!r7) (.k ([],1)) (.bn (zW6 (fn.toNat +items.length+op.toNat +Int.toNat 0+1) fn items op 0 bound) λr6=>.i (isL r6) (.k ([],getL r6)) (.bn (zSS (getR r6).2.1) λr5=>.i (Int.ofNat r5.length==0) (.i ((getR r6).1==0) (.bn (zdb 0 (getR r6).2.2.2.Int) λr3=>.bn (zMh (getR r6).2.2.1 r3) λr2=>.i (r2) (.k (zLk.2,0)) (.k ([],0))) (.k ([],0))) (.bn (zoJ (zoc (At.mk 4 (RowID.mk 0 0) [] (getR r6).1 r5 (getR r6).2.2.1 (getR r6).2.2.2)).2) λr4=>.k (r4.1,r4.2))))
def zGI (fn:Int) (items:yE) (op:Int) (bound:Value):=(zYH fn items op bound).fin default
section
variable {α β ρ τ:Type} [Inhabited τ]
theorem z1H (p:τ->Bool):∀ l:List τ,l.take (l.takeWhile p).length=l.takeWhile p
 | []=>rfl
 | x::r=>by
  rw [List.takeWhile_cons];cases p x with
  | true=>simp [z1H p r]
  | false=>simp
theorem z1s (p:τ->Bool):∀ l:List τ,l.drop (l.takeWhile p).length=l.dropWhile p
 | []=>rfl
 | x::r=>by
  rw [List.takeWhile_cons,List.dropWhile_cons];cases p x with
  | true=>simp [z1s p r]
  | false=>simp
theorem zblg (p:τ->Bool) (l:List τ):(l.takeWhile p).length<=l.length:=(List.takeWhile_prefix p).length_le
theorem z9A {W:α->β->Wy α β ρ} {z:ρ} (l:List τ) (p:τ->Bool) (ex:Nat->α) (ey:Nat->β) (res:Nat->ρ)
  (h:∀ i,i<l.length->∀ (H:α->β->Bool×ρ) K D,(W (ex i) (ey i)).ev H K D=bif p (l.getD i default) then H (ex (i+1)) (ey (i+1)) else K (res i))
  (he:∀ (H:α->β->Bool×ρ) K D,(W (ex l.length) (ey l.length)).ev H K D=K (res l.length)):
  ∀ n i,l.length<i+n->i<=l.length->zC W z n (ex i) (ey i)=(true,res (i+((l.drop i).takeWhile p).length))
 | 0,i,h1,h2=>by omega
 | n+1,i,h1,h2=>by
  show (W (ex i) (ey i)).ev (zC W z n) (λr=>(true,r)) (false,z)=_
  by_cases hi:i<l.length
  ·rw [h i hi,zbC hi,List.takeWhile_cons];cases hp:p (l.getD i default) with
   | false=>simp
   | true=>
    rw [cond_true,z9A l p ex ey res h he n (i+1) (by omega) (by omega)]
    simp only [if_true,qf];congr 2; omega
  ·have:i=l.length:=by omega
   subst this;rw [he,zdj hi]; rfl
theorem zVd {W:α->β->Wy α β ρ} {z:ρ} (l:List τ) (p:τ->Bool) (ex:Nat->α) (ey:Nat->β) (res:Nat->ρ)
  (h:∀ i,i<l.length->∀ (H:α->β->Bool×ρ) K D,(W (ex i) (ey i)).ev H K D=bif p (l.getD i default) then H (ex (i+1)) (ey (i+1)) else K (res i))
  (he:∀ (H:α->β->Bool×ρ) K D,(W (ex l.length) (ey l.length)).ev H K D=K (res l.length)) (n:Nat) (hn:l.length<n):
  zC W z n (ex 0) (ey 0)=(true,res (l.takeWhile p).length):=by
 have:=z9A (z:=z) l p ex ey res h he n 0 (by omega) (by omega)
 simpa using this
def zU0 (p:τ->Bool) (x:τ) (l:List τ):List τ:=l.takeWhile p++x::l.dropWhile p
theorem z89 (p:τ->Bool) (x y:τ) (r:List τ):zU0 p x (y::r)=bif p y then y::zU0 p x r else x::y::r:=by
 unfold zU0;rw [List.takeWhile_cons,List.dropWhile_cons];cases p y <;>simp
theorem zK5 (p:τ->Bool) (x:τ):∀ l:List τ,(zU0 p x l).Perm (x::l)
 | []=>.refl _
 | y::r=>by
  rw [z89];cases p y
  ·exact .refl _
  ·exact ((zK5 p x r).cons y).trans (.swap x y r)
abbrev Srt (key:τ->TT) (l:List τ):Prop:=l.Pairwise λx y=>zbi (key x) (key y)<=0
theorem zbaX (key:τ->TT) (x:τ):∀ l:List τ,Srt key l->Srt key (zU0 (λy=>decide (zbi (key y) (key x)<=0)) x l)
 | [],_=>by simp [zU0]
 | y::r,h=>by
  have h:=qi.1 h;rw [z89];by_cases hp:zbi (key y) (key x)<=0
  ·rw [decide_eq_true hp];refine qi.2 ⟨λz hz=> ?_,zbaX key x r h.2⟩
   rcases qd.1 ((zK5 _ x r).mem_iff.1 hz) with rfl | hz
   ·exact hp
   ·exact h.1 z hz
  ·rw [decide_eq_false hp];have hxy:zbi (key x) (key y)<=0:=by have:=zfb (key x) (key y); omega
   refine qi.2 ⟨λz hz=> ?_,qi.2 h⟩
   rcases qd.1 hz with rfl | hz
   ·exact hxy
   ·exact zuJ _ _ _ hxy (h.1 z hz)
end
theorem z7J {τ:Type} (l:List τ) (k:Nat):List.take (k - Int.toNat 0) (List.drop (Int.toNat 0) l)=l.take k:=by simp
theorem zGi {τ:Type} (l:List τ) (k:Nat):List.take ((Int.ofNat l.length).toNat - k) (List.drop k l)=l.drop k:=by
 simp only [Int.ofNat_eq_natCast,Int.toNat_natCast];rw [List.take_of_length_le (by simp)]
theorem zbbz (n:Nat):(n==0)= !decide (0<n):=by cases n <;>simp
def zn1 (w:Wd):Bool:=decide (0<w.Ann.length)
def zeo (l:yE):yE:=zot zbQ (l.filter zn1)
theorem zOA {d:Nat} {l:yE} (hl:l.length<=1000000) (h:∀ w∈l,zo d w.Ann) (hd:d<=99):SortOK zbQ l:=by
 have e:∀ x∈l,∀ y,zbQ x y=(true,zbi (zba x) (zba y)):=λx hx y=>zcT (h x hx) hd y
 refine ⟨by omega,λx hx y _=>by rw [e x hx],λx hx=> ?_,λx hx y hy z hz h1 h2=> ?_,λx hx y hy z hz h1 h2=> ?_,λx hx y hy h1 h2=> ?_⟩
 ·rw [e x hx,zLa]; omega
 ·rw [e x hx] at h1 ⊢; rw [e y hy] at h2;have h3:=zuJ _ _ _ (show zbi (zba x) (zba y)<=0 by simp only at h1; omega) (show zbi (zba y) (zba z)<=0 by simp only at h2; omega)
  simp only at h1 h2 ⊢;by_cases e0:zbi (zba x) (zba z)=0
  ·have:=zxe _ _ e0;rw [<- this,zfb (zba x) (zba y)] at h2;omega
  ·omega
 ·rw [e x hx] at h1 ⊢; rw [e y hy] at h2;simp only at h1 h2 ⊢;have a1:=zfb (zba x) (zba y);have a2:=zfb (zba y) (zba z);have a3:=zfb (zba x) (zba z);have:=zuJ (zba z) (zba y) (zba x) (by omega) (by omega)
  omega
 ·rw [e x hx] at h1; rw [e y hy] at h2;simp only at h1 h2;have a1:=zfb (zba x) (zba y);exact z6N _ _ (zxe _ _ (by omega))
theorem zbig {d:Nat} (l:yE) (hl:l.length<=1000000) (h:∀ w∈l,zo d w.Ann) (hd:d<=99) (n:Nat) (hn:l.length<n):zIm n l l.length 0 []=(true,l.filter zn1):=by
 have hreach:zO=70368744177664:=rfl;have hfl:∀ i,(List.filter zn1 (l.take i)).length<=1000000:=λi=>Nat.le_trans (List.length_filter_le _ _) (Nat.le_trans (by simp; omega) hl)
 have:=zeb (W:=zAH) (z:=default) l.length (λi=>((),l,(l.length:Int),(i:Int),())) (λi=>((l.take i).filter zn1,())) (λ_=>true) default (l.filter zn1)
  (λi hi H K D=>by
   show (znI l l.length i ((l.take i).filter zn1)).ev H K D=_;unfold znI;have hb2:decide (((List.filter zn1 (l.take i)).length+1)*56<=zO)=true:=by have:=hfl i; simp only [qe]; omega
   have hgt:decide (((l.getD i default).Ann.length:Int)>0)=zn1 (l.getD i default):=zsx _ 0;simp only [Wy.ev_i,Wy.ev_k,Wy.ev_h,Wy.ev_bn,Wy.ev_d,tT,hi,zKX (h _ (zp hi)) (by omega:d<=100),hgt,List.length_singleton,hb2]
   rw [zN (by omega),zho hi,List.filter_append,List.filter_cons]
   cases zn1 (l.getD i default) with
   | true=>simp
   | false=>simp)
  (λH K D=>by
   show (znI l l.length l.length ((l.take l.length).filter zn1)).ev H K D=_;unfold znI;simp only [Wy.ev_i,Wy.ev_k,tT,Nat.lt_irrefl,List.take_length]) n hn
 rw [show zfk (λ_=>true) l.length 0=true from zev.2 λ_ _ _=>rfl] at this
 exact this
theorem zbha {d:Nat} (hd:d<=99):OW λw=>zo d w.Ann where
 ends := λx y hx _ => ⟨_, zcT hx hd y⟩
 asym:=λx y hx hy h1 h2=>by
  unfold ltW at h1 h2;rw [zcT hx hd] at h1;rw [zcT hy hd,zfb (zba x) (zba y)] at h2;simp only at h1 h2; omega
 ntr:=λx y z hx hy hz h1 h2 h3=>by
  unfold ltW at h1 h2 h3;rw [zcT hx hd] at h1 h3;rw [zcT hy hd] at h2;simp only at h1 h2 h3;have a1:=zfb (zba x) (zba y);have a2:=zfb (zba y) (zba z);have a3:=zfb (zba x) (zba z);have:=zuJ (zba z) (zba y) (zba x) (by omega) (by omega)
  omega
theorem zbbL {d:Nat} {l:yE} (h:∀ w∈l,zo d w.Ann) (hd:d<=99) (h20:l.length<40):zbY l=(true,zot zbQ l):=by
 obtain ⟨Z,k1,k2,k3⟩:=zbiH (zbha hd) h h20;rw [k1,(zOA (d:=d) (by omega) h hd).unique k2 k3]
theorem zbhJ {d:Nat} (l:yE) (hl:l.length<=1000000) (h:∀ w∈l,zo d w.Ann) (hd:d<=99) (h20:(l.filter zn1).length<40):zsr l=(true,zeo l):=by
 unfold zsr zLg zeo;have:=zbig l hl h hd (l.length+(Int.ofNat l.length).toNat +Int.toNat (0:Int)+(0:Nat)+(1:Nat)) (by omega)
 rw [show Int.ofNat l.length=(l.length:Int) from rfl] at *
 rw [Wy.fin_bn,this];simp only [Wy.fin_bn,Wy.fin_k,cond_true,zbbL (λw hw=>h w (List.mem_filter.1 hw).1) hd h20]
def zBf (w:Wd) (out:yE):yE:=bif zn1 w then zU0 (λy=>decide (zbi (zba y) (zba w)<=0)) w out else out
theorem zbhH {d:Nat} (l:yE) (i:Nat) (hi:i<l.length) (hl:l.length<=1000000) (out:yE) (ho:out.length<=1000000) (h:∀ w∈out,zo d w.Ann) (hd:d<=99) (n:Nat) (hn:out.length<n):
  zUj n l i 0 out=(true,(l,(i:Int),(((out.takeWhile λy=>decide (zbi (zba y) (zba (l.getD i default))<=0)).length:Nat):Int),out)):=by
 exact zVd (W:=zTX) (z:=default) out (λy=>decide (zbi (zba y) (zba (l.getD i default))<=0)) (λk=>(l,(),(i:Int),(k:Int),())) (λ_=>(out,())) (λk=>(l,(i:Int),(k:Int),out))
  (λk hk H K D=>by
   show (zxC l i k out).ev H K D=_;unfold zxC;have e1:(decide ((k:Int)<=((k+1:Nat):Int))&&decide (((k+1:Nat):Int)<=Int.ofNat out.length))=true:=by simp; try omega
   have e2:(decide ((i:Int)<=((i+1:Nat):Int))&&decide (((i+1:Nat):Int)<=Int.ofNat l.length))=true:=by simp; try omega
   have e3:decide ((k:Int)<Int.ofNat out.length)=true:=by simp [hk]
   simp only [Wy.ev_i,Wy.ev_k,Wy.ev_h,Wy.ev_bn,Wy.ev_d,zN (show k<4611686018427387904 by omega),zN (show i<4611686018427387904 by omega),e1,e2,e3,zfL,Bool.true_and,cond_true,Int.toNat_natCast,show k+1 - k=1 by omega,show i+1 - i=1 by omega,zbaR _ _ hi,zbaR _ _ hk]
   rw [zFH (d:=d) (by simp) (λw hw=>by
    rw [qh] at hw; subst hw; exact h _ (zp hk)) hd,zol,zol]
   simp only [List.map,zbie,cond_true])
  (λH K D=>by
   show (zxC l i out.length out).ev H K D=_;unfold zxC;have e3:decide ((out.length:Int)<Int.ofNat out.length)=false:=by simp
   simp only [Wy.ev_i,Wy.ev_k,e3,cond_false]) n hn
theorem zbgc (w:Wd) (out:yE):(zBf w out).length<=out.length+1:=by
 unfold zBf;cases zn1 w with
 | false=>simp
 | true=>simp only [cond_true]; rw [(zK5 _ w out).length_eq]; simp
theorem zbf9 {w y:Wd} {out:yE} (h:y∈zBf w out):y=w\/y∈out:=by
 unfold zBf at h;cases hb:zn1 w with
 | false=>rw [hb] at h; exact .inr h
 | true=>rw [hb] at h; exact qd.1 ((zK5 _ w out).mem_iff.1 h)
theorem zbhj {d:Nat} (l:yE) (hl:l.length<=1000000) (h:∀ w∈l,zo d w.Ann) (hd:d<=99) (n:Nat) (hn:l.length<n):zTl n l 0 []=(true,l.foldl (λout w=>zBf w out) []):=by
 have hreach:zO=70368744177664:=rfl
 have:=zdk (W:=zTH) (z:=default) (l:=l) (λi (out:yE)=>(l,(),(i:Int),())) (λ_ out=>(out,())) (λw out=>.inl (zBf w out)) (λout=>out) (λi out=>out.length<=i/\∀ w∈out,zo d w.Ann)
  (λi out hi hI=>.inl ⟨_,rfl,⟨by have:=zbgc (l.getD i default) out; omega,λw hw=>by
    rcases zbf9 hw with rfl | hw
    ·exact h _ (zp hi)
    ·exact hI.2 w hw⟩,λH K D=>by
   show (zxP l i out).ev H K D=_;unfold zxP;have e0:((l.getD i default).Ann.length==0)= !zn1 (l.getD i default):=zbbz _;have e3:decide ((i:Int)<Int.ofNat l.length)=true:=by simp [hi]
   simp only [Wy.ev_i,Wy.ev_k,Wy.ev_h,Wy.ev_bn,Wy.ev_d,e3,zfL,Bool.and_self,cond_true,Int.toNat_natCast,show (Int.ofNat (l.getD i default).Ann.length==(0:Int))=((l.getD i default).Ann.length==0) from zzk _ 0,e0]
   rw [zbhH l i hi hl out (by omega) hI.2 hd _ (by omega)]
   simp only [cond_true,z7J,zGi,List.nil_append,Int.toNat_natCast,e3,zfL,Bool.and_self,Int.le_refl,decide_true,Bool.true_and,Bool.and_true];have q1:=zblg (λy=>decide (zbi (zba y) (zba (l.getD i default))<=0)) out
   have q2:decide (((out.takeWhile λy=>decide (zbi (zba y) (zba (l.getD i default))<=0)).length:Int)<=Int.ofNat out.length)=true:=by simp only [qe,Int.ofNat_eq_natCast]; omega
   have hb1:decide ((0+(out.take (out.takeWhile λy=>decide (zbi (zba y) (zba (l.getD i default))<=0)).length).length)*56<=zO)=true:=by simp only [qe,List.length_take]; omega
   have hb2:decide (((out.take (out.takeWhile λy=>decide (zbi (zba y) (zba (l.getD i default))<=0)).length).length+[l.getD i default].length)*56<=zO)=true:=by simp only [qe,List.length_take,List.length_singleton]; omega
   have hb3:decide (((out.take (out.takeWhile λy=>decide (zbi (zba y) (zba (l.getD i default))<=0)).length++[l.getD i default]).length+(out.drop (out.takeWhile λy=>decide (zbi (zba y) (zba (l.getD i default))<=0)).length).length)*56<=zO)=true:=by simp only [qe,qg,List.length_take,List.length_singleton,List.length_drop]; omega
   simp only [q2,hb1,hb2,hb3,cond_true];rw [zN (by omega),z1H,z1s]
   unfold zBf zU0;cases zn1 (l.getD i default) <;>simp⟩)
  (λout hI H K D=>by
   show (zxP l l.length out).ev H K D=_;unfold zxP;have e3:decide ((l.length:Int)<Int.ofNat l.length)=false:=by simp
   simp only [Wy.ev_i,Wy.ev_k,e3,cond_false]) n 0 [] (by omega) (by omega) ⟨by simp,λw hw=>by cases hw⟩
 rw [List.drop_zero,zdl] at this;exact this
theorem z7l:∀ (l out:yE),(l.foldl (λout w=>zBf w out) out).Perm (l.filter zn1++out)/\(Srt zba out->Srt zba (l.foldl (λout w=>zBf w out) out))
 | [],out=>⟨.refl _,λh=>h⟩
 | w::r,out=>by
  obtain ⟨h1,h2⟩:=z7l r (zBf w out);rw [List.foldl_cons,List.filter_cons];cases hb:zn1 w with
  | false=>
   have e:zBf w out=out:=by unfold zBf; rw [hb]; rfl
   rw [e] at h1 h2 ⊢;exact ⟨by simpa using h1,h2⟩
  | true=>
   have e:zBf w out=zU0 (λy=>decide (zbi (zba y) (zba w)<=0)) w out:=by unfold zBf; rw [hb]; rfl
   rw [e] at h1 h2 ⊢;refine ⟨?_,λh=>h2 (zbaX zba w out h)⟩
   simp only [if_true,List.cons_append];exact h1.trans (((zK5 _ w out).append_left _).trans List.perm_middle)
theorem zbfU {d:Nat} (l:yE) (hl:l.length<=1000000) (h:∀ w∈l,zo d w.Ann) (hd:d<=99):zSS l=(true,zeo l):=by
 unfold zSS zXm;rw [Wy.fin_bn,zbhj l hl h hd _ (by omega)]
 simp only [cond_true,Wy.fin_k];congr 1;obtain ⟨h1,h2⟩:=z7l l [];rw [List.append_nil] at h1;have hm:∀ w∈l.filter zn1,zo d w.Ann:=λw hw=>h w (List.mem_filter.1 hw).1
 refine (zOA (d:=d) (Nat.le_trans (List.length_filter_le _ _) hl) hm hd).unique h1 ?_;refine (h2 .nil).imp_of_mem λ{x y} hx hy hxy=> ?_
 rw [zcT (hm y (h1.mem_iff.1 hy)) hd,zfb (zba x) (zba y)];simp only; omega
def zSo (op sign:Int):Bool:=bif op==5 then sign==0 else bif op==6 then sign != 0 else bif op==7 then decide (sign<0) else bif op==8 then decide (sign<=0) else bif op==9 then decide (sign>0) else decide (sign≥0)
theorem zbg0 (op sign:Int):zsd op sign=(true,zSo op sign):=by
 unfold zsd zLo zSo;simp only [Wy.fin_i,Wy.fin_k];cases op==5 <;>cases op==6 <;>cases op==7 <;>cases op==8 <;>cases op==9 <;>rfl
theorem zbeQ {op sign:Int} (h1:5<=op) (h2:op<=10):zMh op sign=(true,zSo op sign):=by
 unfold zMh zRj zSo;simp only [Wy.fin_i,Wy.fin_k,zh8];by_cases a1:op=5
 ·simp [a1]
 by_cases a2:op=6
 ·simp [a2]
 by_cases a3:op=7
 ·simp [a3]
 by_cases a4:op=8
 ·simp [a4]
 by_cases a5:op=9
 ·simp [a5]
 have a6:op=10:=by omega
 simp [a6]
def zSE (fn:Int) (l:yE) (op:Int) (b:Value):At:=⟨4,⟨0,0⟩,[],fn,l,op,b⟩
def zzp (fn:Int) (items:yE) (op:Int) (b:Value):yC×Int:=
 bif !(zEf fn items op b&&items.all λw=>zU w.Ann) then ([],1) else
 bif decide (0<(zeo items).length) then zoH (zcB (zSE fn (zeo items) op b)) else
 bif fn==0&&zSo op (zeK 0 b.Int) then ([⟨1,[]⟩],0) else ([],0)
theorem zM6 {l:yE} {w:Wd} (h:w∈zeo l):w∈l/\w.Ann≠[]:=by
 have:=(zoh _ _).mem_iff.1 h;obtain ⟨h1,h2⟩:=List.mem_filter.1 this;refine ⟨h1,λe=> ?_⟩
 rw [zn1,e] at h2; simp at h2
theorem z6A (l:yE):(zeo l).length=(l.filter zn1).length:=(zoh _ _).length_eq
theorem zYY {B:Nat}:∀ l:yE,(∀ w∈l,zL w.Ann<=B)->zdC l<=l.length*(B+1)
 | [],_=>by rw [zgr]; simp
 | w::r,h=>by
  rw [zi5,qf];have h1:=h w (by simp)
  have h2:=zYY r λw hw=>h w (by simp [hw])
  rw [Nat.add_mul]; omega
theorem zO0 {fn:Int} {l:yE} {op:Int} {b:Value} (hl:l.length<=1000000) (hf:zEf fn l op b=true) (hv:(l.all λw=>zU w.Ann)=true):zo 10 (zcB (zSE fn (zeo l) op b))/\zL (zcB (zSE fn (zeo l) op b))<=4611686018427387904:=by
 obtain ⟨_,hb,hit⟩:=zu9 hf;have hvv:∀ w∈l,zU w.Ann=true:=λw hw=>List.all_eq_true.1 hv w hw
 have hlen:(zeo l).length<=1000000:=by rw [z6A]; exact Nat.le_trans (List.length_filter_le _ _) hl
 constructor
 ·refine zQ3 ⟨⟨by simp [zSE],hlen,by have:=zyH hb; simp only [zSE]; omega⟩,λy hy=>(by cases hy),λw hw=> ?_⟩
  have hm:=(zM6 hw).1;exact ⟨by have:=zyH (hit w hm).1; omega,(ze5 (hvv w hm)).1⟩
 ·rw [z5p,zhT];have h1:zdC (zeo l)<=(zeo l).length*(4096+1):=zYY _ λw hw=>(ze5 (hvv w (zM6 hw).1)).2.1
  show 2+(zfP []+zdC (zeo l))<=_;rw [zhx];have:=Nat.mul_le_mul hlen (Nat.le_refl (4096+1));omega
theorem zbjl {d:Nat} (l:yE) (hl:l.length<=1000000) (h:∀ w∈l,zo d w.Ann/\zL w.Ann<=4611686018427387904) (hd:d<=99):zcp l=(true, !l.all λw=>zU w.Ann):=by
 unfold zcp zhH;have:zdI l=IG (λ(_:Unit) x=>zo0 x) (l.length+(Int.ofNat l.length).toNat +Int.toNat (0:Int)+(1:Nat)) () l:=rfl
 rw [zi6 (P:=λw=> !zU w.Ann) (this.trans (zG4 _ _ _ _ _ (by omega) (λx hx=>by
  unfold zo0 zHO;rw [Wy.fin_bn,zQ8 (h x hx).1 (by omega) (h x hx).2]; rfl) (by omega)))]
 simp [List.all_eq_not_any_not]
theorem zbiW {d:Nat} (fn:Int) (l:yE) (op:Int) (b:Value) (hl:l.length<=1000000) (h:∀ w∈l,zo d w.Ann/\zL w.Ann<=4611686018427387904) (hd:d<=99) (h20:(l.filter zn1).length<40):
  zpD fn l op b=(true,zzp fn l op b):=by
 unfold zpD zMP zzp;have hI:=zbhJ l hl (λw hw=>(h w hw).1) hd h20
 have hgt:decide (Int.ofNat (zeo l).length>0)=decide (0<(zeo l).length):=zsx _ 0;simp only [Wy.fin_bn,Wy.fin_i,Wy.fin_k,z6z fn l op b hl,zbjl l hl h hd,hI,cond_true,hgt];cases hf:zEf fn l op b with
 | false=>rfl
 | true=>
  cases hv:l.all λw=>zU w.Ann with
  | false=>rfl
  | true=>
   simp only [Bool.not_true,cond_false,Bool.and_self];rw [zKL];have hx:(⟨4,⟨0,0⟩,[],fn,zeo l,op,b⟩:At)=zSE fn (zeo l) op b:=rfl;rw [hx,zDD (zO0 hl hf hv).1 (by omega) (zO0 hl hf hv).2]
   cases decide (0<(zeo l).length) with
   | true=>rfl
   | false=>
    simp only [cond_false,zzs,zbg0,cond_true];cases fn==0 with
    | false=>rfl
    | true=>
     cases zSo op (zeK 0 b.Int) <;>rfl
theorem zbbu {d:Nat} (fn:Int) (l:yE) (op:Int) (b:Value) (hl:l.length<=1000000) (h:∀ w∈l,zo d w.Ann/\zL w.Ann<=4611686018427387904) (hd:d<=99):
  zGI fn l op b=(true,zzp fn l op b):=by
 unfold zGI zYH zzp;have hI:=zbfU l hl (λw hw=>(h w hw).1) hd
 have hgt:decide (0<(zeo l).length)= !((zeo l).length==0):=by rw [zbbz,Bool.not_not]
 have hL:zW6 (fn.toNat +l.length+op.toNat +Int.toNat (0:Int)+(1:Nat)) fn l op (0:Int) b=(true,bif l.all λw=>zU w.Ann then .inr (fn,l,op,b) else .inl 1):=by
  have:=zeb (W:=zW2) (z:=.inl default) l.length (λi=>(fn,l,op,(),(i:Int),())) (λ_=>(b,())) (λi=>(λw:Wd=>zU w.Ann) (l.getD i default)) (.inl 1) (.inr (fn,l,op,b))
   (λi hi H K D=>by
    show (zzP fn l op i b).ev H K D=_;unfold zzP;have hx:=h _ (zp hi);simp only [Wy.ev_i,Wy.ev_k,Wy.ev_h,Wy.ev_bn,Wy.ev_d,tT,hi,z7c hx.1 (by omega) hx.2]
    rw [zN (by omega)]
    cases zU (l.getD i default).Ann <;>rfl)
   (λH K D=>by
    show (zzP fn l op l.length b).ev H K D=_;unfold zzP;simp only [Wy.ev_i,Wy.ev_k,tT,Nat.lt_irrefl]) (fn.toNat +l.length+op.toNat +Int.toNat (0:Int)+(1:Nat)) (by omega)
  rw [zCo (λw:Wd=>zU w.Ann)] at this
  exact this
 simp only [Wy.fin_bn,Wy.fin_i,Wy.fin_k,zbcM fn l op b hl,hL,cond_true,hgt];cases hf:zEf fn l op b with
 | false=>rfl
 | true=>
  cases hv:l.all λw=>zU w.Ann with
  | false=>rfl
  | true=>
   simp only [Bool.not_true,cond_false,cond_true,Bool.and_self,isL,getR,hI];rw [show (Int.ofNat (zeo l).length==(0:Int))=((zeo l).length==0) from zzk _ 0,zGa]
   have hx:(⟨4,⟨0,0⟩,[],fn,zeo l,op,b⟩:At)=zSE fn (zeo l) op b:=rfl;rw [hx,zC8 (zO0 hl hf hv).1 (by omega) (zO0 hl hf hv).2]
   cases ((zeo l).length==0) with
   | false=>rfl
   | true=>
    obtain ⟨⟨_,_,o1,o2⟩,_⟩:=zu9 hf;simp only [cond_false,Bool.not_true,zpk,zbeQ o1 o2,cond_true];cases fn==0 with
    | false=>rfl
    | true=>
     cases zSo op (zeK 0 b.Int) <;>rfl
def zSD (a:yC) (b:yC):Wy0 (yC×Int):=.bn (zgv a) λr3=>.i (!r3) (.k ([],1)) (.bn (zgv b) λr2=>.i (!r2) (.k ([],1)) (.bn (zp4 a b) λr1=>.bn (zoJ r1) λr0=>.k (r0.1,r0.2)))
def zKC (a:yC) (b:yC):=(zSD a b).fin default
def zS6 (a:yC) (b:yC):Wy0 (yC×Int):=.bn (zgv a) λr3=>.i (!r3) (.k ([],1)) (.bn (zgv b) λr2=>.i (!r2) (.k ([],1)) (.bn (zGj a b) λr1=>.bn (zoJ r1) λr0=>.k (r0.1,r0.2)))
def zLp (a:yC) (b:yC):=(zS6 a b).fin default
def zbfi (t:Term):yC->yC
 | []=>[t]
 | x::r=>if cT x t=0 then ⟨zDm x.Cf t.Cf,t.Fs⟩::r else t::x::r
def zbeR (f:Fc):yD->yD
 | []=>[f]
 | x::r=>if cF x f=0 then (if f.At.Kind<3 then ⟨f.At,x.Exp+f.Exp⟩ else f)::r else f::x::r
theorem zbi7 {t:Term} {l:yC} {k:Nat} (hk:k<l.length):zbfi t (l.drop k)=if cT (l.getD k default) t=0 then ⟨zDm (l.getD k default).Cf t.Cf,t.Fs⟩::l.drop (k+1) else t::l.drop k:=by
 rw [zbC hk]; rfl
theorem zbiI {f:Fc} {l:yD} {k:Nat} (hk:k<l.length):zbeR f (l.drop k)=if cF (l.getD k default) f=0 then (if f.At.Kind<3 then ⟨f.At,(l.getD k default).Exp+f.Exp⟩ else f)::l.drop (k+1) else f::l.drop k:=by
 rw [zbC hk]; rfl
theorem zbdP (t:Term):∀ l:yC,zj8 t l=l.takeWhile (λx=>decide (cT x t<0))++zbfi t (l.dropWhile (λx=>decide (cT x t<0)))
 | []=>rfl
 | x::r=>by
  rw [List.takeWhile_cons,List.dropWhile_cons];unfold zj8;by_cases h:cT x t<0
  ·simp only [h,if_true,decide_true,List.cons_append];rw [zbdP t r]
  ·simp only [h,if_false,decide_false,Bool.false_eq_true,List.nil_append]; rfl
theorem zbdv (f:Fc):∀ l:yD,zLD f l=l.takeWhile (λx=>decide (cF x f<0))++zbeR f (l.dropWhile (λx=>decide (cF x f<0)))
 | []=>rfl
 | x::r=>by
  rw [List.takeWhile_cons,List.dropWhile_cons];unfold zLD;by_cases h:cF x f<0
  ·simp only [h,if_true,decide_true,List.cons_append];rw [zbdv f r]
  ·simp only [h,if_false,decide_false,Bool.false_eq_true,List.nil_append]; rfl
theorem zbd8 {a b:Int} (ha:0<=a/\a<=1152921504606846976) (hb:0<=b/\b<=1152921504606846976):IntKind.i64.wrap (a+b)=a+b:=zcf (by omega) (by omega)
theorem zbfS {τ:Type} (l:List τ) (p:τ->Bool):(l.takeWhile p).length<=l.length:=(List.takeWhile_prefix p).length_le
theorem zbkF (z:Int):(z==0)=decide (z=0):=zh8 z 0
theorem zbd0 {d:Nat} (l:yC) (t:Term) (hl:l.length<=1000000) (h:∀ x∈l,zcH (zo d) x.Fs) (hd:d<=99) (hc:∀ x∈l,cOK x) (ht:cOK t):zFT l t=(true,zj8 t l):=by
 have hreach:zO=70368744177664:=rfl;unfold zFT z3D
 have hL:=zVd (W:=zQe) (z:=default) l (λx=>decide (cT x t<0)) (λk=>(l,(),(k:Int),())) (λ_=>(t,())) (λk=>(l,(k:Int),t))
  (λk hk H K D=>by
   show (zCn l k t).ev H K D=_;unfold zCn;simp only [Wy.ev_i,Wy.ev_k,Wy.ev_h,Wy.ev_bn,Wy.ev_d,tT,hk,znn (h _ (zp hk)) hd];rw [zN (by omega)]; rfl)
  (λH K D=>by
   show (zCn l l.length t).ev H K D=_;unfold zCn;simp only [Wy.ev_i,Wy.ev_k,tT,Nat.lt_irrefl]) (l.length+Int.toNat (0:Int)+t.Fs.length+(1:Nat)) (by omega)
 have hL:z06 (l.length+Int.toNat (0:Int)+t.Fs.length+(1:Nat)) l 0 t=_:=hL;rw [hL,z1q,zbdP];have q1:=zbfS l (λx=>decide (cT x t<0))
 have q2:=z1H (λx=>decide (cT x t<0)) l
 have q3:=z1s (λx=>decide (cT x t<0)) l
 generalize (l.takeWhile λx=>decide (cT x t<0)).length=k at q1 q2 q3 ⊢
 rw [<- q2, <- q3];have g1:(decide ((0:Int)<=(0:Int))&&decide ((0:Int)<=(k:Int))&&decide ((k:Int)<=Int.ofNat l.length))=true:=by simp only [qc,qe,Int.ofNat_eq_natCast]; omega
 have g2:decide ((0+(l.take k).length)*32<=zO)=true:=by simp only [qe,List.length_take]; omega
 have g4:∀ m:Nat,decide (((l.take k).length+[(⟨0,[]⟩:Term)].length)*32<=zO)=true:=λm=>by simp only [qe,List.length_take,List.length_singleton]; omega
 simp only [Wy.fin_i,Wy.fin_k,Wy.fin_bn,List.nil_append,Int.toNat_natCast,z7J,zGi,g1,g2,cond_true];by_cases hk:k<l.length
 ·have g3:decide ((k:Int)<Int.ofNat l.length)=true:=by simp [hk]
  have g5:(decide ((0:Int)<=(k:Int))&&decide ((k:Int)<Int.ofNat l.length))=true:=by rw [g3]; simp
  have hm:=zp hk;simp only [g3,zfL,Bool.and_self,cond_true,znn (h _ hm) hd];rw [zbkF,zbi7 hk];have gw:IntKind.i64.wrap ((k:Int)+1)=((k+1:Nat):Int):=zN (by omega)
  have gp:(zzm (l.getD k default).Cf t.Cf).2=zDm (l.getD k default).Cf t.Cf:=by
   unfold zzm zZP zDm;rw [Wy.fin_k,zbd8 ⟨by have:=(hc _ hm).1; omega,(hc _ hm).2⟩ ⟨by have:=ht.1; omega,ht.2⟩]
  have gk:(decide ((0:Int)<=(k:Int))&&decide ((k:Int)<=Int.ofNat l.length)&&decide (Int.ofNat l.length<=Int.ofNat l.length))=true:=by simp only [qc,qe,Int.ofNat_eq_natCast]; omega
  have gk':decide ((k:Int)<=Int.ofNat l.length)=true:=by simp only [qe,Int.ofNat_eq_natCast]; omega
  have gk1':decide (((k+1:Nat):Int)<=Int.ofNat l.length)=true:=by simp only [qe,Int.ofNat_eq_natCast]; omega
  have gk1:(decide ((0:Int)<=((k+1:Nat):Int))&&decide (((k+1:Nat):Int)<=Int.ofNat l.length)&&decide (Int.ofNat l.length<=Int.ofNat l.length))=true:=by simp only [qc,qe,Int.ofNat_eq_natCast]; omega
  have gb:∀ x:Term,decide (((l.take k).length+[x].length)*32<=zO)=true:=λx=>by simp only [qe,List.length_take,List.length_singleton]; omega
  have gc:∀ (x:Term) (m:Nat),decide (((l.take k++[x]).length+(l.drop m).length)*32<=zO)=true:=λx m=>by simp only [qe,List.length_take,List.length_drop,qg,List.length_singleton]; omega
  by_cases hz:cT (l.getD k default) t=0
  ·have hz':zbI (zbu (l.getD k default).Fs) (zbu t.Fs)=0:=hz;simp only [hz,hz',if_true,decide_true,cond_true,gw,gp,zfL,Bool.true_and,gk1',Int.le_refl,decide_true,cond_true,Bool.and_self,gb,gc,Int.toNat_natCast,zGi,List.append_assoc,List.singleton_append]
  ·have hz':¬ zbI (zbu (l.getD k default).Fs) (zbu t.Fs)=0:=hz;simp only [hz,hz',if_false,decide_false,cond_false,cond_true,zfL,Bool.true_and,gk',Int.le_refl,decide_true,cond_true,Bool.and_self,gb,gc,List.append_assoc,List.singleton_append]
 ·have hk':k=l.length:=by omega
  have g3:decide ((k:Int)<Int.ofNat l.length)=false:=by simp [hk]
  have gk:(decide ((0:Int)<=(k:Int))&&decide ((k:Int)<=Int.ofNat l.length)&&decide (Int.ofNat l.length<=Int.ofNat l.length))=true:=by simp only [qc,qe,Int.ofNat_eq_natCast]; omega
  have gb:∀ x:Term,decide (((l.take k).length+[x].length)*32<=zO)=true:=λx=>by simp only [qe,List.length_take,List.length_singleton]; omega
  have gc:∀ (x:Term) (m:Nat),decide (((l.take k++[x]).length+(l.drop m).length)*32<=zO)=true:=λx m=>by simp only [qe,List.length_take,List.length_drop,qg,List.length_singleton]; omega
  have gk':decide ((k:Int)<=Int.ofNat l.length)=true:=by simp only [qe,Int.ofNat_eq_natCast]; omega
  simp only [g3,zfL,Bool.true_and,gk',Int.le_refl,decide_true,Bool.and_self,gb,gc,cond_true,cond_false];rw [zdj hk];simp [zbfi,zbeR]
theorem zbjy {d:Nat} (l:yD) (f:Fc) (hl:l.length<=1000000) (h:∀ x∈l,zdf (zo d) x.At) (hd:d<=99) (hc:∀ x∈l,0<=x.Exp/\x.Exp<=1000000) (ht:0<=f.Exp/\f.Exp<=1000000):zCd l f=(true,zLD f l):=by
 have hreach:zO=70368744177664:=rfl;unfold zCd zTP
 have hL:=zVd (W:=zHu) (z:=default) l (λx=>decide (cF x f<0)) (λk=>(l,(),(k:Int),())) (λ_=>(f,())) (λk=>(l,(k:Int),f))
  (λk hk H K D=>by
   show (zuR l k f).ev H K D=_;unfold zuR;simp only [At.eta,Wy.ev_i,Wy.ev_k,Wy.ev_h,Wy.ev_bn,Wy.ev_d,tT,hk,zzf (h _ (zp hk)) hd];rw [zN (by omega)]; rfl)
  (λH K D=>by
   show (zuR l l.length f).ev H K D=_;unfold zuR;simp only [Wy.ev_i,Wy.ev_k,tT,Nat.lt_irrefl]) (l.length+Int.toNat (0:Int)+f.At.Ag.length+f.At.Items.length+(1:Nat)) (by omega)
 have hL:zRM (l.length+Int.toNat (0:Int)+f.At.Ag.length+f.At.Items.length+(1:Nat)) l 0 f=_:=hL;rw [At.eta,show (FO.mk f.At f.Exp:Fc)=f from rfl,hL,z1q,zbdv]
 have q1:=zbfS l (λx=>decide (cF x f<0))
 have q2:=z1H (λx=>decide (cF x f<0)) l
 have q3:=z1s (λx=>decide (cF x f<0)) l
 generalize (l.takeWhile λx=>decide (cF x f<0)).length=k at q1 q2 q3 ⊢
 rw [<- q2, <- q3];have g1:(decide ((0:Int)<=(0:Int))&&decide ((0:Int)<=(k:Int))&&decide ((k:Int)<=Int.ofNat l.length))=true:=by simp only [qc,qe,Int.ofNat_eq_natCast]; omega
 have g2:decide ((0+(l.take k).length)*128<=zO)=true:=by simp only [qe,List.length_take]; omega
 have gb:∀ x:Fc,decide (((l.take k).length+[x].length)*128<=zO)=true:=λx=>by simp only [qe,List.length_take,List.length_singleton]; omega
 have gc:∀ (x:Fc) (m:Nat),decide (((l.take k++[x]).length+(l.drop m).length)*128<=zO)=true:=λx m=>by simp only [qe,List.length_take,List.length_drop,qg,List.length_singleton]; omega
 have gk:(decide ((0:Int)<=(k:Int))&&decide ((k:Int)<=Int.ofNat l.length)&&decide (Int.ofNat l.length<=Int.ofNat l.length))=true:=by simp only [qc,qe,Int.ofNat_eq_natCast]; omega
 have ef:(FO.mk f.At f.Exp:Fc)=f:=rfl;simp only [At.eta,ef,Wy.fin_i,Wy.fin_k,Wy.fin_bn,List.nil_append,Int.toNat_natCast,z7J,zGi,g1,g2,cond_true];by_cases hk:k<l.length
 ·have g3:decide ((k:Int)<Int.ofNat l.length)=true:=by simp [hk]
  have g5:(decide ((0:Int)<=(k:Int))&&decide ((k:Int)<Int.ofNat l.length))=true:=by rw [g3]; simp
  have hm:=zp hk;simp only [g3,zfL,Bool.and_self,cond_true,zzf (h _ hm) hd];rw [zbkF,zbiI hk];have gw:IntKind.i64.wrap ((k:Int)+1)=((k+1:Nat):Int):=zN (by omega)
  have gp:IntKind.i64.wrap ((l.getD k default).Exp+f.Exp)=(l.getD k default).Exp+f.Exp:=by have:=hc _ hm; exact zcf (by omega) (by omega)
  have gk':decide ((k:Int)<=Int.ofNat l.length)=true:=by simp only [qe,Int.ofNat_eq_natCast]; omega
  have gk1':decide (((k+1:Nat):Int)<=Int.ofNat l.length)=true:=by simp only [qe,Int.ofNat_eq_natCast]; omega
  have gk1:(decide ((0:Int)<=((k+1:Nat):Int))&&decide (((k+1:Nat):Int)<=Int.ofNat l.length)&&decide (Int.ofNat l.length<=Int.ofNat l.length))=true:=by simp only [qc,qe,Int.ofNat_eq_natCast]; omega
  by_cases hz:cF (l.getD k default) f=0
  ·have hz':zbi (zdZ (l.getD k default).At) (zdZ f.At)=0:=hz;by_cases hk3:f.At.Kind<3
   ·simp only [hz,hz',hk3,if_true,decide_true,cond_true,gw,gp,zfL,Bool.true_and,gk1',Int.le_refl,decide_true,cond_true,Bool.and_self,gb,gc,Int.toNat_natCast,zGi,List.append_assoc,List.singleton_append]
   ·simp only [hz,hz',hk3,if_true,if_false,decide_true,decide_false,cond_true,cond_false,gw,gp,zfL,Bool.true_and,gk1',Int.le_refl,decide_true,cond_true,Bool.and_self,gb,gc,Int.toNat_natCast,zGi,List.append_assoc,List.singleton_append]
  ·have hz':¬ zbi (zdZ (l.getD k default).At) (zdZ f.At)=0:=hz;simp only [hz,hz',if_false,decide_false,cond_false,cond_true,zfL,Bool.true_and,gk',Int.le_refl,decide_true,cond_true,Bool.and_self,gb,gc,List.append_assoc,List.singleton_append]
 ·have g3:decide ((k:Int)<Int.ofNat l.length)=false:=by simp [hk]
  have gk':decide ((k:Int)<=Int.ofNat l.length)=true:=by simp only [qe,Int.ofNat_eq_natCast]; omega
  simp only [g3,zfL,Bool.true_and,gk',Int.le_refl,decide_true,Bool.and_self,gb,gc,cond_true,cond_false];rw [zdj hk];simp [zbfi,zbeR]
theorem zbkA (n:Nat) (h:n<=4000000):zer (n:Int)=(true,[]):=by
 have hreach:zO=70368744177664:=rfl;unfold zer zn9;have e0:IntKind.i64.wrap ((0:Int) - 0)=0:=rfl;have e1:IntKind.i64.wrap ((n:Int) - 0)=(n:Int):=by rw [zcf (by omega) (by omega)]; omega
 have e2:decide ((n:Int)<0)=false:=decide_eq_false (by omega)
 rw [Wy.fin_i,e2,cond_false,e0,e1];by_cases hn:(n:Int)>0
 ·have e3:(true&&(decide ((n:Int)*Int.ofNat (32:Nat)<=Int.ofNat zO)&&(decide ((n:Int)<=Int.ofNat zO)&& !Nat.beq (2:Nat) (0:Nat))))=true:=by
   simp only [qc,qe,Int.ofNat_eq_natCast];exact ⟨trivial,by rw [hreach]; omega,by rw [hreach]; omega,rfl⟩
  rw [Wy.fin_i,decide_eq_true hn,cond_true,Wy.fin_i,e3,cond_true,Wy.fin_k];simp
 ·rw [Wy.fin_i,decide_eq_false hn]; rfl
theorem zbgG (ls:yA) (hn:ls.length<=10) (h:∀ l∈ls,l.length<=300000):zd2 ls=(true,ls.flatten):=by
 have hreach:zO=70368744177664:=rfl;unfold zd2 zmS;have e:∀ l:yC,l∈ls->l.length<=300000:=h
 have h1:=zdk (W:=zgX) (z:=default) (l:=ls) (λi (n:Nat)=>(ls,(n:Int),ls,(ls.length:Int),(i:Int),())) (λ_ _=>()) (λy n=>.inl (n+y.length)) (λn=>(ls,(n:Int))) (λi n=>n<=i*300000)
  (λi n hi hI=>.inl ⟨_,rfl,by have:=e _ (zp hi); omega,λH K D=>by
   show (zdq ls n ls ls.length i).ev H K D=_;unfold zdq;have hle:=e _ (zp hi);have hw:IntKind.i64.wrap ((n:Int)+((ls.getD i default).length:Int))=((n+(ls.getD i default).length:Nat):Int):=zpX (by omega)
   simp only [Wy.ev_i,Wy.ev_k,Wy.ev_h,Wy.ev_bn,Wy.ev_d,tT,hi,hw];have h0:decide (((n+(ls.getD i default).length:Nat):Int)<0)=false:=decide_eq_false (by omega)
   rw [h0,zN (by omega)]; rfl⟩)
  (λn hI H K D=>by
   show (zdq ls n ls ls.length ls.length).ev H K D=_;unfold zdq;simp only [Wy.ev_i,Wy.ev_k,tT,Nat.lt_irrefl]) (ls.length+Int.toNat (0:Int)+ls.length+(Int.ofNat ls.length).toNat +Int.toNat (0:Int)+(1:Nat)) 0 0 (by omega) (by omega) (by omega)
 rw [List.drop_zero,zdl] at h1;have h1:zmA (ls.length+Int.toNat (0:Int)+ls.length+(Int.ofNat ls.length).toNat +Int.toNat (0:Int)+(1:Nat)) ls 0 ls (Int.ofNat ls.length) 0=_:=h1
 have hb:∀ (r:yA) (n:Nat),(∀ l∈r,l.length<=300000)->r.foldl (λn (y:yC)=>n+y.length) n<=n+r.length*300000:=λr=>by
  induction r with
  | nil=>intro n _; simp
  | cons y r ih=>
   intro n hr;have q1:=ih (n+y.length) λl hl=>hr l (by simp [hl])
   have q2:=hr y (by simp)
   rw [List.foldl_cons,qf]; omega
 have hsz:=hb ls 0 h
 have h2:=zdk (W:=zgB) (z:=default) (l:=ls) (λi (out:yC)=>((),ls,(ls.length:Int),(i:Int),())) (λ_ out=>(out,())) (λy out=>.inl (out++y)) (λout=>out) (λi out=>out.length<=i*300000)
  (λi out hi hI=>.inl ⟨_,rfl,by have:=e _ (zp hi); simp only [qg]; omega,λH K D=>by
   show (zdh ls ls.length i out).ev H K D=_;unfold zdh;have hle:=e _ (zp hi);have hr:decide ((out.length+(ls.getD i default).length)*32<=zO)=true:=by simp only [qe]; omega
   simp only [Wy.ev_i,Wy.ev_k,Wy.ev_h,Wy.ev_bn,Wy.ev_d,tT,hi,hr];rw [zN (by omega)]⟩)
  (λout hI H K D=>by
   show (zdh ls ls.length ls.length out).ev H K D=_;unfold zdh;simp only [Wy.ev_i,Wy.ev_k,tT,Nat.lt_irrefl]) (ls.length+(Int.ofNat ls.length).toNat +Int.toNat (0:Int)+([]:yC).length+(1:Nat)) 0 [] (by omega) (by omega) (by simp)
 rw [List.drop_zero,zdl] at h2;have h2:zlX (ls.length+(Int.ofNat ls.length).toNat +Int.toNat (0:Int)+([]:yC).length+(1:Nat)) ls (Int.ofNat ls.length) 0 []=_:=h2
 have hf:∀ (r:yA) (out:yC),r.foldl (λout y=>out++y) out=out++r.flatten:=λr=>by
  induction r with
  | nil=>intro out; simp
  | cons y r ih=>intro out; rw [List.foldl_cons,ih,List.flatten_cons,List.append_assoc]
 rw [Wy.fin_bn,h1,cond_true];simp only [Wy.fin_bn,zbkA _ (show ls.foldl (λn (y:yC)=>n+y.length) 0<=4000000 by have:=Nat.mul_le_mul hn (Nat.le_refl 300000); omega),cond_true,h2,Wy.fin_k]
 rw [hf]; simp
theorem zbkP (n:Nat) (h:n<=4000000):zeH (n:Int)=(true,[]):=by
 have hreach:zO=70368744177664:=rfl;unfold zeH zoL;have e0:IntKind.i64.wrap ((0:Int) - 0)=0:=rfl;have e1:IntKind.i64.wrap ((n:Int) - 0)=(n:Int):=by rw [zcf (by omega) (by omega)]; omega
 have e2:decide ((n:Int)<0)=false:=decide_eq_false (by omega)
 rw [Wy.fin_i,e2,cond_false,e0,e1];by_cases hn:(n:Int)>0
 ·have e3:(true&&(decide ((n:Int)*Int.ofNat (128:Nat)<=Int.ofNat zO)&&(decide ((n:Int)<=Int.ofNat zO)&& !Nat.beq (11:Nat) (0:Nat))))=true:=by
   simp only [qc,qe,Int.ofNat_eq_natCast];exact ⟨trivial,by rw [hreach]; omega,by rw [hreach]; omega,rfl⟩
  rw [Wy.fin_i,decide_eq_true hn,cond_true,Wy.fin_i,e3,cond_true,Wy.fin_k];simp
 ·rw [Wy.fin_i,decide_eq_false hn]; rfl
theorem zbhD (ls:List (yD)) (hn:ls.length<=10) (h:∀ l∈ls,l.length<=300000):zee ls=(true,ls.flatten):=by
 have hreach:zO=70368744177664:=rfl;unfold zee znz;have e:∀ l:yD,l∈ls->l.length<=300000:=h
 have h1:=zdk (W:=zhl) (z:=default) (l:=ls) (λi (n:Nat)=>(ls,(n:Int),ls,(ls.length:Int),(i:Int),())) (λ_ _=>()) (λy n=>.inl (n+y.length)) (λn=>(ls,(n:Int))) (λi n=>n<=i*300000)
  (λi n hi hI=>.inl ⟨_,rfl,by have:=e _ (zp hi); omega,λH K D=>by
   show (zdA ls n ls ls.length i).ev H K D=_;unfold zdA;have hle:=e _ (zp hi);have hw:IntKind.i64.wrap ((n:Int)+((ls.getD i default).length:Int))=((n+(ls.getD i default).length:Nat):Int):=zpX (by omega)
   simp only [Wy.ev_i,Wy.ev_k,Wy.ev_h,Wy.ev_bn,Wy.ev_d,tT,hi,hw];have h0:decide (((n+(ls.getD i default).length:Nat):Int)<0)=false:=decide_eq_false (by omega)
   rw [h0,zN (by omega)]; rfl⟩)
  (λn hI H K D=>by
   show (zdA ls n ls ls.length ls.length).ev H K D=_;unfold zdA;simp only [Wy.ev_i,Wy.ev_k,tT,Nat.lt_irrefl]) (ls.length+Int.toNat (0:Int)+ls.length+(Int.ofNat ls.length).toNat +Int.toNat (0:Int)+(1:Nat)) 0 0 (by omega) (by omega) (by omega)
 rw [List.drop_zero,zdl] at h1;have h1:zmP (ls.length+Int.toNat (0:Int)+ls.length+(Int.ofNat ls.length).toNat +Int.toNat (0:Int)+(1:Nat)) ls 0 ls (Int.ofNat ls.length) 0=_:=h1
 have hb:∀ (r:List (yD)) (n:Nat),(∀ l∈r,l.length<=300000)->r.foldl (λn (y:yD)=>n+y.length) n<=n+r.length*300000:=λr=>by
  induction r with
  | nil=>intro n _; simp
  | cons y r ih=>
   intro n hr;have q1:=ih (n+y.length) λl hl=>hr l (by simp [hl])
   have q2:=hr y (by simp)
   rw [List.foldl_cons,qf]; omega
 have hsz:=hb ls 0 h
 have h2:=zdk (W:=zg1) (z:=default) (l:=ls) (λi (out:yD)=>((),ls,(ls.length:Int),(i:Int),())) (λ_ out=>(out,())) (λy out=>.inl (out++y)) (λout=>out) (λi out=>out.length<=i*300000)
  (λi out hi hI=>.inl ⟨_,rfl,by have:=e _ (zp hi); simp only [qg]; omega,λH K D=>by
   show (zdn ls ls.length i out).ev H K D=_;unfold zdn;have hle:=e _ (zp hi);have hr:decide ((out.length+(ls.getD i default).length)*128<=zO)=true:=by simp only [qe]; omega
   simp only [Wy.ev_i,Wy.ev_k,Wy.ev_h,Wy.ev_bn,Wy.ev_d,tT,hi,hr];rw [zN (by omega)]⟩)
  (λout hI H K D=>by
   show (zdn ls ls.length ls.length out).ev H K D=_;unfold zdn;simp only [Wy.ev_i,Wy.ev_k,tT,Nat.lt_irrefl]) (ls.length+(Int.ofNat ls.length).toNat +Int.toNat (0:Int)+([]:yD).length+(1:Nat)) 0 [] (by omega) (by omega) (by simp)
 rw [List.drop_zero,zdl] at h2;have h2:zmh (ls.length+(Int.ofNat ls.length).toNat +Int.toNat (0:Int)+([]:yD).length+(1:Nat)) ls (Int.ofNat ls.length) 0 []=_:=h2
 have hf:∀ (r:List (yD)) (out:yD),r.foldl (λout y=>out++y) out=out++r.flatten:=λr=>by
  induction r with
  | nil=>intro out; simp
  | cons y r ih=>intro out; rw [List.foldl_cons,ih,List.flatten_cons,List.append_assoc]
 rw [Wy.fin_bn,h1,cond_true];simp only [Wy.fin_bn,zbkP _ (show ls.foldl (λn (y:yD)=>n+y.length) 0<=4000000 by have:=Nat.mul_le_mul hn (Nat.le_refl 300000); omega),cond_true,h2,Wy.fin_k]
 rw [hf]; simp
theorem zKQ {d:Nat} (hd:d<=99):∀ (n:Nat) (a b out:yD),a.length+b.length<n->a.length+b.length+out.length<=1000000->(∀ x∈a,zdf (zo d) x.At/\0<=x.Exp/\x.Exp<=1000000)->(∀ x∈b,0<=x.Exp/\x.Exp<=1000000)->
  ∃ a' b' out',zCJ n a b out=(true,(a',b',out'))/\out'++(a'++b')=out++zbR a b/\a'.length<=a.length/\b'.length<=b.length/\out'.length<=out.length+a.length+b.length
 | 0,a,b,out,h,_,_,_=>by omega
 | n+1,a,b,out,h,hl,ha,hb=>by
  have hreach:zO=70368744177664:=rfl;show ∃ a' b' out',(zCs a b out).ev (λx y=>zCJ n x.1 x.2.1 y.1) (λr=>(true,r)) (false,default)=_/\_
  unfold zCs
  match a,b,h,hl,ha,hb with
  | [],b,h,hl,ha,hb=>exact ⟨[],b,out,rfl,by rw [zbR]; simp,Nat.le_refl _,Nat.le_refl _,by omega⟩
  | x::a,[],h,hl,ha,hb=>
   have e1:decide (Int.ofNat (x::a).length>0)=true:=by simp
   refine ⟨x::a,[],out, ?_,by rw [zbR]; simp,Nat.le_refl _,Nat.le_refl _,by omega⟩
   rw [Wy.ev_i,e1,cond_true]; rfl
  | x::a,y::b,h,hl,ha,hb=>
   have hx:=ha x (by simp)
   have hy:=hb y (by simp)
   simp only [qf] at h hl;have e1:decide (Int.ofNat (x::a).length>0)=true:=by simp
   have e2:decide (Int.ofNat (y::b).length>0)=true:=by simp
   have e3:(decide ((0:Int)<=0)&&decide ((0:Int)<Int.ofNat (x::a).length))=true:=by simp
   have e4:(decide ((0:Int)<=0)&&decide ((0:Int)<Int.ofNat (y::b).length))=true:=by simp
   have e5:(x::a).getD (Int.toNat 0) default=x:=rfl;have e6:(y::b).getD (Int.toNat 0) default=y:=rfl;have e7:∀ z:Fc,decide ((out.length+[z].length)*128<=zO)=true:=λz=>by simp only [qe,List.length_singleton]; omega
   have e8:(decide ((0:Int)<=1)&&decide ((1:Int)<=Int.ofNat (x::a).length)&&decide (Int.ofNat (x::a).length<=Int.ofNat (x::a).length))=true:=by simp; omega
   have e9:(decide ((0:Int)<=1)&&decide ((1:Int)<=Int.ofNat (y::b).length)&&decide (Int.ofNat (y::b).length<=Int.ofNat (y::b).length))=true:=by simp; omega
   have e10:List.take ((Int.ofNat (x::a).length).toNat - Int.toNat 1) (List.drop (Int.toNat 1) (x::a))=a:=by rw [show Int.toNat 1=1 from rfl,zGi]; rfl
   have e11:List.take ((Int.ofNat (y::b).length).toNat - Int.toNat 1) (List.drop (Int.toNat 1) (y::b))=b:=by rw [show Int.toNat 1=1 from rfl,zGi]; rfl
   have ea:∀ z∈a,zdf (zo d) z.At/\0<=z.Exp/\z.Exp<=1000000:=λz hz=>ha z (by simp [hz])
   have eb:∀ z∈b,0<=z.Exp/\z.Exp<=1000000:=λz hz=>hb z (by simp [hz])
   have ex:(FO.mk x.At x.Exp:Fc)=x:=rfl;have ey:(FO.mk y.At y.Exp:Fc)=y:=rfl;simp only [Wy.ev_i,Wy.ev_k,Wy.ev_h,Wy.ev_bn,Wy.ev_d,e1,e2,e3,e4,e5,e6,e7,e8,e9,e10,e11,cond_true,At.eta,zAa hx.1 hd,z8M,ex,ey];rw [zbR];have hcf:cF x y=zbi (zdZ x.At) (zdZ y.At):=rfl;rw [<- hcf];by_cases h1:cF x y<0
   ·simp only [h1,decide_true,cond_true,if_true];obtain ⟨a',b',out',r1,r2,r3,r4,r5⟩:=zKQ hd n a (y::b) (out++[x]) (by simp only [qf]; omega) (by simp only [qf,qg,List.length_nil]; omega) ea hb
    refine ⟨a',b',out',r1,by rw [r2]; simp,by simp only [qf]; omega,by simpa using r4,by simp only [qf,qg,List.length_nil] at r5 ⊢; omega⟩
   ·by_cases h2:0<cF x y
    ·have h2':cF x y>0:=h2;simp only [h1,h2,h2',decide_true,decide_false,cond_true,cond_false,if_true,if_false];obtain ⟨a',b',out',r1,r2,r3,r4,r5⟩:=zKQ hd n (x::a) b (out++[y]) (by simp only [qf]; omega) (by simp only [qf,qg,List.length_nil]; omega) ha eb
     refine ⟨a',b',out',r1,by rw [r2]; simp,by simpa using r3,by simp only [qf]; omega,by simp only [qf,qg,List.length_nil] at r5 ⊢; omega⟩
    ·have h2':¬ cF x y>0:=h2;have hw:IntKind.i64.wrap (x.Exp+y.Exp)=x.Exp+y.Exp:=zcf (by omega) (by omega)
     simp only [h1,h2,h2',decide_false,cond_false,if_false,hw];have hk:(x.At.Kind==3||x.At.Kind==4)=decide (x.At.Kind=3\/x.At.Kind=4):=by rw [zh8,zh8, <- Bool.decide_or]
     rw [hk];by_cases h3:x.At.Kind=3\/x.At.Kind=4
     ·simp only [h3,decide_true,Bool.not_true,cond_false,if_true];obtain ⟨a',b',out',r1,r2,r3,r4,r5⟩:=zKQ hd n a b (out++[x]) (by omega) (by simp only [qg,qf,List.length_nil]; omega) ea eb
      refine ⟨a',b',out',r1,by rw [r2]; simp,by simp only [qf]; omega,by simp only [qf]; omega,by simp only [qf,qg,List.length_nil] at r5 ⊢; omega⟩
     ·simp only [h3,decide_false,Bool.not_false,cond_true,if_false];obtain ⟨a',b',out',r1,r2,r3,r4,r5⟩:=zKQ hd n a b (out++[⟨x.At,x.Exp+y.Exp⟩]) (by omega) (by simp only [qg,qf,List.length_nil]; omega) ea eb
      refine ⟨a',b',out',r1,by rw [r2]; simp,by simp only [qf]; omega,by simp only [qf]; omega,by simp only [qf,qg,List.length_nil] at r5 ⊢; omega⟩
theorem zbiS {d:Nat} (hd:d<=99) (a b:yD) (hl:a.length+b.length<=100000) (ha:∀ x∈a,zdf (zo d) x.At/\0<=x.Exp/\x.Exp<=1000000) (hb:∀ x∈b,0<=x.Exp/\x.Exp<=1000000):zpm a b=(true,zbR a b):=by
 unfold zpm zMQ;obtain ⟨a',b',out',r1,r2,r3,r4,r5⟩:=zKQ hd (a.length+b.length+(0:Nat)+(1:Nat)) a b [] (by omega) (by simp; omega) ha hb
 rw [Wy.fin_bn,r1,cond_true]
 have hc:=zbhD [out',a',b'] (by simp) (λl hl'=>by
  simp only [qd,List.not_mem_nil,or_false] at hl';simp only [List.length_nil] at r5;rcases hl' with rfl | rfl | rfl <;>omega)
 simp only [Wy.fin_bn,hc,cond_true,Wy.fin_k];congr 1
 simpa using r2
theorem zbcq {a b:Int} (ha:1<=a/\a<=1152921504606846976) (hb:1<=b/\b<=1152921504606846976):zsv a b=(true,zCV a b)/\zEI a b=(true,zCV a b):=by
 obtain ⟨h1,h2⟩:=z57 ha hb;have h0:(!decide (b=(0:Int)))=true:=by rw [decide_eq_false (by omega)]; rfl
 have hq:0<=Int.tdiv 1152921504606846976 b/\Int.tdiv 1152921504606846976 b<=1152921504606846976:=by
  rw [Int.tdiv_eq_ediv_of_nonneg (by omega)]
  exact ⟨Int.ediv_nonneg (by omega) (by omega),Int.ediv_le_self _ (by omega)⟩
 have hw:IntKind.i64.wrap (Int.tdiv 1152921504606846976 b)=Int.tdiv 1152921504606846976 b:=zcf (by omega) (by omega)
 have key:∀ w:Int,(w=if Int.tdiv 1152921504606846976 b<a then 1152921504606846976 else IntKind.i64.wrap (a*b))->w=zCV a b:=λw e=>by
  rw [e]; unfold zCV;split
  ·rfl
  ·rename_i hn;have h3:=h2 hn;have h4:=Int.mul_nonneg (show 0<=a by omega) (show 0<=b by omega)
   exact zcf (by omega) (by omega)
 constructor
 ·unfold zsv zLc;rw [Wy.fin_i,h0,cond_true,Wy.fin_i,hw,Wy.fin_k,Wy.fin_k];by_cases hc:Int.tdiv 1152921504606846976 b<a
  ·rw [decide_eq_true hc,cond_true]; exact congrArg (Prod.mk true) (key _ (by rw [if_pos hc]))
  ·rw [decide_eq_false hc,cond_false]; exact congrArg (Prod.mk true) (key _ (by rw [if_neg hc]))
 ·unfold zEI zXo;rw [Wy.fin_i,h0,cond_true,Wy.fin_i,hw,Wy.fin_k,Wy.fin_k];by_cases hc:Int.tdiv 1152921504606846976 b<a
  ·rw [decide_eq_true hc,cond_true]; exact congrArg (Prod.mk true) (key _ (by rw [if_pos hc]))
  ·rw [decide_eq_false hc,cond_false]; exact congrArg (Prod.mk true) (key _ (by rw [if_neg hc]))
theorem zxt {τ:Type} [Inhabited τ] {R:τ->τ->Prop} (ht:∀ x y z,R x y->R y z->R x z):∀ l:List τ,(∀ k,0<k->k<l.length->R (l.getD (k - 1) default) (l.getD k default))->l.Pairwise R
 | [],_=>.nil
 | [x],_=>by simp
 | x::y::r,h=>by
  have h1:R x y:=h 1 (by omega) (by simp)
  have h2:=zxt ht (y::r) λk hk hl=>by
   have:=h (k+1) (by omega) (by simpa using hl)
   obtain ⟨j,rfl⟩:∃ j,k=j+1:=⟨k - 1,by omega⟩
   exact this
  refine qi.2 ⟨λz hz=> ?_,h2⟩
  rcases qd.1 hz with rfl | hz
  ·exact h1
  ·exact ht x y z h1 ((qi.1 h2).1 z hz)
def GF (f:Fc):Prop:=(zes (zbF 9) f.At=true/\zgG f.At/\f.At.Items.length<=1024)/\1<=f.Exp/\f.Exp<=1000000
def GT (t:Term):Prop:=cOK t/\t.Fs.length<=1000/\∀ f∈t.Fs,GF f
def VT (t:Term):Prop:=GT t/\Srf t.Fs/\t.Fs.length<=64/\∀ f∈t.Fs,eOK f/\f.Exp<=64
theorem znQ {a:yC} (h:zU a=true) (hw:zg3 a):Srs a/\a.length<=512/\∀ t∈a,VT t:=by
 have h9:=zU3 h (Nat.le_refl 9);rw [z6P] at h;obtain ⟨w1,w2,w3,w4⟩:=zva (zLr h);have hall:=h;simp only [zAU,qc] at hall;refine ⟨zxt (R:=λx y=>cT x y<0) (λx y z h1 h2=>zIY h1 h2) a λk hk hl=> ?_,w1,λt ht=> ?_⟩
 ·have:=zev.1 hall.2 k (by omega) (by omega)
  simp only [zHj,qc,Bool.or_eq_true,qe] at this;rcases this.1.2 with e | e
  ·omega
  ·exact e
 ·obtain ⟨hc,hok⟩:=zyF h ht;obtain ⟨l1,l2⟩:=w4 t ht;have hwt:=zmW (zuX (zrn hw t ht)).2.1;refine ⟨⟨hc,by omega,λf hf=> ?_⟩,zxt (R:=λx y=>cF x y<0) (λx y z h1 h2=>zIP h1 h2) _ λk hk hl=> ?_,l1,λf hf=> ?_⟩
  ·obtain ⟨⟨e1,_⟩,hv⟩:=zq9 hok hf;exact ⟨⟨by rw [zbfW (Nat.le_refl 9)]; exact hv,(zo4 (hwt f hf)).1,(l2 f hf).2⟩,e1,by have:=(l2 f hf).1; omega⟩
  ·have:=zev.1 hok k (by omega) (by omega)
   simp only [zSA,qc,Bool.or_eq_true,qe] at this;rcases this.1.2 with e | e
   ·omega
   ·exact e
  ·obtain ⟨⟨_,e2⟩,hv⟩:=zq9 hok hf;exact ⟨⟨zGM hv,e2⟩,(l2 f hf).1⟩
theorem zod {m:Nat} {x:At} (h:zes (zbF m) x=true) (hi:x.Items.length<=1024):zdf (zo 9) x:=by
 cases zdN.1 h with
 | var r h=>exact ⟨⟨by simp,by simp,by show (ByteArray.mk #[]).size<=_; decide⟩,λa ha=>(by cases ha),λw hw=>(by cases hw)⟩
 | mon b c hb hc _ _ _=>
  refine ⟨⟨by simp,by simp,by show (ByteArray.mk #[]).size<=_; decide⟩,λy hy=> ?_,λw hw=>(by cases hw)⟩
  simp only [qd,List.not_mem_nil,or_false] at hy;rcases hy with rfl | rfl
  ·exact (ze5 hb).1
  ·exact (ze5 hc).1
 | del b hb _ _ _=>
  refine ⟨⟨by simp,by simp,by show (ByteArray.mk #[]).size<=_; decide⟩,λy hy=> ?_,λw hw=>(by cases hw)⟩
  rw [qh] at hy; subst hy; exact (ze5 hb).1
 | abs b hb _ _=>
  refine ⟨⟨by simp,by simp,by show (ByteArray.mk #[]).size<=_; decide⟩,λy hy=> ?_,λw hw=>(by cases hw)⟩
  rw [qh] at hy; subst hy; exact (ze5 hb).1
 | tst f l o b hl hv hs hf=>
  obtain ⟨_,hb,hit⟩:=zu9 hf;simp only at hi;exact ⟨⟨by simp,by simp only; omega,by have:=zyH hb; simp only; omega⟩,λa ha=>(by cases ha),λw hw=>⟨by have:=zyH (hit w hw).1; omega,(ze5 (hv w hw).1).1⟩⟩
theorem GT.fine {t:Term} (h:GT t):zcH (zo 9) t.Fs:=⟨by have:=h.2.1; omega,λf hf=>zod (h.2.2 f hf).1.1 (h.2.2 f hf).1.2.2⟩
theorem GF.gF {f:Fc} (h:GF f):gF (zbF 9) f:=⟨h.1.1,h.1.2.1,by constructor <;>(have:=h.2; omega)⟩
theorem GT.text {t:Term} (h:GT t):zsl t.Fs=(true,bs (txL t.Fs)):=
 (zbbB 1000).2.2 9 t.Fs h.2.1 (λf hf=>⟨(h.2.2 f hf).1.1,(h.2.2 f hf).1.2.1,(h.2.2 f hf).1.2.2,(h.2.2 f hf).gF.2.2⟩) (by omega)
theorem GT.inj {s t:Term} (hs:GT s) (ht:GT t) (h:bs (txL s.Fs)=bs (txL t.Fs)):s.Fs=t.Fs:=
 zbjj (λf hf=>(hs.2.2 f hf).gF) (λf hf=>(ht.2.2 f hf).gF) (zbkw h)
def zqE:Int->yC->List (Go.Value×Int)
 | _,[]=>[]
 | i,t::r=>(.string (bs (txL t.Fs)),i)::zqE (i+1) r
def zMc (k:ByteArray):yC->Option Nat
 | []=>none
 | t::r=>if k=bs (txL t.Fs) then some 0 else (zMc k r).map (· +1)
theorem zRm (k:ByteArray) (t:Term) (r:yC):zMc k (t::r)=if k=bs (txL t.Fs) then some 0 else (zMc k r).map (· +1):=rfl
theorem zbgO (a b:ByteArray):znb (.string a) (.string b)=decide (a=b):=by
 cases a with | mk x=>cases b with | mk y=>
 show (x==y)=_;by_cases h:x=y
 ·subst h; simp
 ·have:(x==y)=false:=by rw [beq_eq_false_iff_ne]; exact h
  rw [this]; simp [h]
theorem zba4 (k:ByteArray):∀ (o:yC) (i:Int),zbeU (.string k) (zqE i o)=(zMc k o).isSome
 | [],i=>rfl
 | t::r,i=>by
  show (bif znb (.string k) (.string (bs (txL t.Fs))) then true else zbeU (.string k) (zqE (i+1) r))=_
  rw [zbgO,zba4 k r,zRm];by_cases h:k=bs (txL t.Fs)
  ·rw [decide_eq_true h,if_pos h]; rfl
  ·rw [decide_eq_false h,if_neg h]; cases zMc k r <;>rfl
theorem zbbv (k:ByteArray):∀ (o:yC) (i:Int),zHB (.string k) (zqE i o)=(zMc k o).map λj:Nat=>i+(j:Int)
 | [],i=>rfl
 | t::r,i=>by
  show (bif znb (.string k) (.string (bs (txL t.Fs))) then some i else zHB (.string k) (zqE (i+1) r))=_
  rw [zbgO,zbbv k r,zRm];by_cases h:k=bs (txL t.Fs)
  ·rw [decide_eq_true h,if_pos h]; simp
  ·rw [decide_eq_false h,if_neg h];cases zMc k r with
   | none=>rfl
   | some j=>
    have e:i+1+(j:Int)=i+((j+1:Nat):Int):=by omega
    simp only [cond_false,Option.map_some,e]
theorem zbbO (k:ByteArray) (x:Int):∀ (o:yC) (i:Int),zMc k o=none->zbe2 (.string k) x (zqE i o)=zqE i o++[(.string k,x)]
 | [],i,_=>rfl
 | t::r,i,h=>by
  rw [zRm] at h;by_cases hk:k=bs (txL t.Fs)
  ·rw [if_pos hk] at h; cases h
  ·rw [if_neg hk] at h;show (bif znb (.string k) (.string (bs (txL t.Fs))) then _ else (.string (bs (txL t.Fs)),i)::zbe2 (.string k) x (zqE (i+1) r))=_
   rw [zbgO,decide_eq_false hk,zbbO k x r (i+1) (by cases hp:zMc k r with | none=>rfl | some j=>rw [hp] at h; cases h)]
   rfl
theorem z9M (t:Term):∀ (o:yC) (i:Int),zqE i (o++[t])=zqE i o++[(.string (bs (txL t.Fs)),i+(o.length:Int))]
 | [],i=>by simp [zqE]
 | x::r,i=>by
  have e:i+1+(r.length:Int)=i+((r.length+1:Nat):Int):=by omega
  simp only [List.cons_append,zqE,qf,z9M t r,e]
theorem z9i (y:Term):∀ (o:yC) (j:Nat) (i:Int),(o.getD j default).Fs=y.Fs->zqE i (o.set j y)=zqE i o
 | [],j,i,_=>rfl
 | x::r,0,i,h=>by simp only [List.set_cons_zero,zqE]; rw [show x.Fs=y.Fs from h]
 | x::r,j+1,i,h=>by simp only [List.set_cons_succ,zqE]; rw [z9i y r j (i+1) h]
theorem zbdR {t:Term} (ht:GT t):∀ {o:yC},(∀ x∈o,GT x)->(match zMc (bs (txL t.Fs)) o with
  | some j=>j<o.length/\(o.getD j default).Fs=t.Fs/\zoF t o=o.set j ⟨zDm (o.getD j default).Cf t.Cf,(o.getD j default).Fs⟩
  | none=>zoF t o=o++[t])
 | [],_=>rfl
 | x::r,h=>by
  have ih:=zbdR ht (o:=r) λy hy=>h y (by simp [hy])
  rw [zRm];unfold zoF;by_cases hk:bs (txL t.Fs)=bs (txL x.Fs)
  ·have e:=GT.inj ht (h x (by simp)) hk
   rw [if_pos hk,if_pos e.symm];exact ⟨by simp,e.symm,rfl⟩
  ·have e:¬ x.Fs=t.Fs:=λe=>hk (by rw [e])
   rw [if_neg hk,if_neg e];cases hp:zMc (bs (txL t.Fs)) r with
   | none=>rw [hp] at ih; simp only [Option.map_none]; rw [ih]; rfl
   | some j=>
    rw [hp] at ih;obtain ⟨i1,i2,i3⟩:=ih;simp only [Option.map_some];exact ⟨by simp; exact i1,i2,by rw [i3]; rfl⟩
theorem zbfR {t:Term} (ht:GT t) {o:yC} (ho:∀ x∈o,GT x):∀ x∈zoF t o,GT x:=by
 induction o with
 | nil=>intro x hx; simp only [zoF,qh] at hx; subst hx; exact ht
 | cons y r ih=>
  intro x hx;unfold zoF at hx;split at hx
  ·rcases qd.1 hx with rfl | hx
   ·have:=ho y (by simp)
    exact ⟨z9b this.1.1 ht.1.1,this.2⟩
   ·exact ho x (by simp [hx])
  ·rcases qd.1 hx with rfl | hx
   ·exact ho x (by simp)
   ·exact ih (λz hz=>ho z (by simp [hz])) x hx
theorem z8r (t:Term):∀ o:yC,(zoF t o).length<=o.length+1
 | []=>by simp [zoF]
 | y::r=>by
  have:=z8r t r;unfold zoF;split
  ·simp
  ·simp only [qf]; omega
theorem zbfu (ts:yC) (hl:ts.length<=1000000) (h:∀ t∈ts,GT t) (n:Nat) (hn:ts.length<n):zwX n ts ts.length 0 [] []=(true,zQ2 ts):=by
 have hreach:zO=70368744177664:=rfl
 have h2:=zdk (W:=zxf) (z:=default) (l:=ts) (λi (out:yC)=>((),(),ts,(ts.length:Int),(i:Int),())) (λ_ out=>(zqE 0 out,out,())) (λt out=>.inl (zoF t out)) (λout=>out) (λi out=>out.length<=i/\∀ t∈out,GT t)
  (λi out hi hI=>.inl ⟨_,rfl,⟨by have:=z8r (ts.getD i default) out; omega,zbfR (h _ (zp hi)) hI.2⟩,λH K D=>by
   show (zlm ts ts.length i (zqE 0 out) out).ev H K D=_;unfold zlm;have ht:=h _ (zp hi);have hp:=zbdR ht hI.2;have hhas:=zba4 (bs (txL (ts.getD i default).Fs)) out 0;have hget:=zbbv (bs (txL (ts.getD i default).Fs)) out 0;simp only [Wy.ev_i,Wy.ev_k,Wy.ev_h,Wy.ev_bn,Wy.ev_d,tT,hi,ht.text];rw [hhas,hget,zN (by omega)]
   cases hpos:zMc (bs (txL (ts.getD i default).Fs)) out with
   | none=>
    rw [hpos] at hp;have hb:decide ((out.length+[ts.getD i default].length)*32<=zO)=true:=by simp only [qe,List.length_singleton]; omega
    simp only [Option.isSome_none,cond_false,hb,cond_true];rw [zbbO _ _ _ _ hpos,hp,z9M];simp
   | some j=>
    rw [hpos] at hp;obtain ⟨p1,p2,p3⟩:=hp;have hj:=hI.2 _ (zp p1);have hw:IntKind.i64.wrap ((out.getD j default).Cf+(ts.getD i default).Cf)=(out.getD j default).Cf+(ts.getD i default).Cf:=zbd8 ⟨by have:=hj.1.1; omega,hj.1.2⟩ ⟨by have:=ht.1.1; omega,ht.1.2⟩
    have e1:(0:Int)+(j:Int)=(j:Int):=by omega
    have e2:decide (j<out.length)=true:=decide_eq_true p1;simp only [Option.isSome_some,Option.map_some,Option.getD_some,e1,cond_true,tT,e2,hw];rw [p3,z9i ⟨zDm (out.getD j default).Cf (ts.getD i default).Cf,(out.getD j default).Fs⟩ out j 0 rfl];rfl⟩)
  (λout hI H K D=>by
   show (zlm ts ts.length ts.length (zqE 0 out) out).ev H K D=_;unfold zlm;simp only [Wy.ev_i,Wy.ev_k,tT,Nat.lt_irrefl]) n 0 [] (by omega) (by omega) ⟨by simp,λt ht=>by cases ht⟩
 rw [List.drop_zero,zdl] at h2;exact h2
theorem zbdq:∀ (ts o:yC),(∀ t∈ts,GT t)->(∀ t∈o,GT t)->∀ x∈ts.foldl (λa t=>zoF t a) o,GT x
 | [],o,_,ho=>ho
 | t::r,o,h,ho=>zbdq r (zoF t o) (λx hx=>h x (by simp [hx])) (zbfR (h t (by simp)) ho)
theorem z9D:∀ (ts o:yC),(ts.foldl (λa t=>zoF t a) o).length<=o.length+ts.length
 | [],o=>by simp
 | t::r,o=>by
  have h1:=z9D r (zoF t o);have h2:=z8r t o;rw [List.foldl_cons,qf]; omega
theorem z7i (ts:yC) (hl:ts.length<=1000000) (h:∀ t∈ts,GT t):zix ts=(true,zgy [] ts):=by
 unfold zix zGN;have hL:=zbfu ts hl h (ts.length+(Int.ofNat ts.length).toNat +Int.toNat (0:Int)+(0:Nat)+(0:Nat)+(1:Nat)) (by omega)
 have hL:zwX (ts.length+(Int.ofNat ts.length).toNat +Int.toNat (0:Int)+(0:Nat)+(0:Nat)+(1:Nat)) ts (Int.ofNat ts.length) 0 [] []=_:=hL;rw [Wy.fin_bn,hL,cond_true];obtain ⟨hp,hd⟩:=z9L ts [] [] .nil .nil .nil;have hs:=z1v ts [] .nil;have hg:∀ x∈zQ2 ts,GT x:=zbdq ts [] h λx hx=>by cases hx
 have hlen:(zQ2 ts).length<=1000000:=by have:=z9D ts []; simp at this; exact Nat.le_trans this hl
 have e:∀ x∈zQ2 ts,∀ y,zcb x y=(true,cT x y):=λx hx y=>zAv (hg x hx).fine (by omega) y
 have ok:SortOK zcb (zQ2 ts):=by
  refine ⟨by omega,λx hx y _=>by rw [e x hx],λx hx=> ?_,λx hx y hy z hz h1 h2=> ?_,λx hx y hy z hz h1 h2=> ?_,λx hx y hy h1 h2=> ?_⟩
  ·rw [e x hx]; have:=zF9 (x:=x) (y:=x) rfl; simp only; omega
  ·rw [e x hx] at h1 ⊢; rw [e y hy] at h2;exact zIY h1 h2
  ·rw [e x hx] at h1 ⊢; rw [e y hy] at h2;simp only at h1 h2 ⊢;have a1:=zJH x y;have a2:=zJH y z;have a3:=zJH x z;have:=zNc (zbu z.Fs) (zbu y.Fs) (zbu x.Fs) (show cT z y<=0 by omega) (show cT y x<=0 by omega)
   have:cT z x<=0:=this;omega
  ·rw [e x hx] at h1; rw [e y hy] at h2;simp only at h1 h2;have a1:=zJH x y;have hz:x.Fs=y.Fs:=z1K (by omega)
   by_cases hxy:x=y
   ·exact hxy
   ·exfalso
    -- two terms with the same factors are one
    have hdd:Dst (zQ2 ts):=hd;have:=List.pairwise_iff_getElem.1 hdd;obtain ⟨i,hi,ei⟩:=List.mem_iff_getElem.1 hx;obtain ⟨j,hj,ej⟩:=List.mem_iff_getElem.1 hy;rcases Nat.lt_trichotomy i j with hij | hij | hij
    ·exact this i j hi hj hij (by rw [ei,ej]; exact hz)
    ·subst hij; exact hxy (ei.symm.trans ej)
    ·exact this j i hj hi hij (by rw [ei,ej]; exact hz.symm)
 unfold zbT zCz;simp only [Wy.fin_bn,Wy.fin_k,decide_eq_true ok,cond_true];congr 1;refine (ok.unique (hp:(zgy [] ts).Perm (zQ2 ts)) ?_).symm;refine hs.imp_of_mem λ{x y} hx hy hxy=> ?_
 rw [e y ((hp:(zgy [] ts).Perm (zQ2 ts)).mem_iff.1 hy)];have:=zJH x y;simp only; omega
mutual
theorem zbdb:∀ x:At,zfK x<=zJS x
 | ⟨_,_,a,_,i,_,_⟩=>by
  rw [zfK,zJS];have h1:=z3J a;have h2:=zYS i;omega
theorem zT4:∀ l:yD,zbM l<=zh6 l
 | []=>by rw [zbM,zh6]; exact Nat.le_refl _
 | ⟨x,_⟩::r=>by
  rw [zbM,zh6];have h1:=zbdb x;have h2:=zT4 r;omega
theorem zNy:∀ l:yC,zL l<=ze4 l
 | []=>by rw [zL,ze4]; exact Nat.le_refl _
 | ⟨_,fs⟩::r=>by
  rw [zL,ze4];have h1:=zT4 fs;have h2:=zNy r;omega
theorem z3J:∀ l:yA,zfP l<=zrO l
 | []=>by rw [zfP,zrO]; exact Nat.le_refl _
 | a::r=>by
  rw [zfP,zrO];have h1:=zNy a;have h2:=z3J r;omega
theorem zYS:∀ l:yE,zdC l<=l.length+zl6 l
 | []=>by rw [zdC,zl6]; exact Nat.zero_le _
 | ⟨_,a⟩::r=>by
  rw [zdC,zl6];have h1:=zNy a;have h2:=zYS r;simp only [qf];omega
end
theorem zbhl (d:Nat):zo (d+1) []:=⟨by simp,λt ht=>by cases ht⟩
def zMj (a:yC) (b:yC):Wy0 (yC×Int):=.bn (zgv a) λr3=>.i (!r3) (.k ([],1)) (.bn (zgv b) λr2=>.i (!r2) (.k ([],1)) (.i (Int.ofNat b.length==0) (.k (a,0)) (.i (Int.ofNat a.length==0) (.k ([],0)) (.bn (zuv a b) λr1=>.i (r1) (.k ([],0)) (.bn (zoJ (zoc (At.mk 1 (RowID.mk 0 0) [a,b] 0 [] 0 (Value.mk 0 0 (ByteArray.mk #[])))).2) λr0=>.k (r0.1,r0.2))))))
def zEY (a:yC) (b:yC):=(zMj a b).fin default
def zJr (a:yC):Wy0 (yC×Int):=.bn (zgv a) λr2=>.i (!r2) (.k ([],1)) (.i (Int.ofNat a.length==0) (.k (zLk.2,0)) (.bn (zjx a) λr1=>.i (r1) (.k ([],0)) (.bn (zoJ (zoc (At.mk 3 (RowID.mk 0 0) [a] 0 [] 0 (Value.mk 0 0 (ByteArray.mk #[])))).2) λr0=>.k (r0.1,r0.2))))
def zCp (a:yC):=(zJr a).fin default
theorem zTF {B:Nat}:∀ l:yD,(∀ f∈l,zfK f.At<=B)->zbM l<=l.length*B
 | [],_=>by rw [zjC]; simp
 | f::r,h=>by
  have h1:=h f (by simp)
  have h2:=zTF r λg hg=>h g (by simp [hg])
  rw [zdv,qf,Nat.add_mul]; omega
theorem z5y {B:Nat}:∀ l:yC,(∀ t∈l,1+t.Fs.length+zbM t.Fs<=B)->zL l<=l.length*B
 | [],_=>by rw [zuZ]; simp
 | f::r,h=>by
  have h1:=h f (by simp)
  have h2:=z5y r λg hg=>h g (by simp [hg])
  rw [zeX,qf,Nat.add_mul]; omega
theorem z0T {l:yC} (hl:l.length<=1000000) (h:∀ t∈l,GT t):zo 10 l/\zL l<=4611686018427387904:=by
 refine ⟨⟨hl,λt ht=>(h t ht).fine⟩, ?_⟩
 refine Nat.le_trans (z5y (B:=4195330000) l λt ht=> ?_) (by have:=Nat.mul_le_mul hl (Nat.le_refl 4195330000); omega)
 have hg:=h t ht;have h1:=zTF (B:=4195328) t.Fs λf hf=>z3P (hg.2.2 f hf).1.1 (hg.2.2 f hf).1.2.2
 have:=Nat.mul_le_mul hg.2.1 (Nat.le_refl 4195328);have:=hg.2.1;omega
theorem zbca {t:Term} (ht:GT t) {l:yC} (hs:Srs l) (h:∀ x∈l,GT x):∀ x∈zj8 t l,GT x:=λx hx=>by
 have hc:=zbeh ht.1 (λy hy=>(h y hy).1) x hx
 rcases (zUP hs).1 hx with ⟨h1,_⟩ | ⟨h1,_⟩
 ·exact h x h1
 ·exact ⟨hc,by rw [h1]; exact ht.2⟩
theorem zKu:∀ (b a:yC),Srs a->(∀ x∈a,GT x)->(∀ x∈b,GT x)->∀ x∈zgy a b,GT x
 | [],_,_,ha,_=>ha
 | t::r,a,hs,ha,hb=>zKu r (zj8 t a) (zF4 hs) (zbca (hb t (by simp)) hs ha) λx hx=>hb x (by simp [hx])
theorem zUY {x y:Term} (hx:VT x) (hy:VT y):GT (zna x y):=by
 obtain ⟨gx,sx,lx,ex⟩:=hx;obtain ⟨gy,sy,ly,ey⟩:=hy;refine ⟨(z57 gx.1 gy.1).1,by have:=zQa x.Fs y.Fs; show (zbR x.Fs y.Fs).length<=1000; omega,λf hf=> ?_⟩
 obtain ⟨g,hg,e⟩:=zvt hf;have hb:=zO5 (B:=64) (λz hz=>⟨(gx.2.2 z hz).2.1,(ex z hz).2⟩) (λz hz=>⟨(gy.2.2 z hz).2.1,(ey z hz).2⟩) hf
 have hv:(zes (zbF 9) g.At=true/\zgG g.At/\g.At.Items.length<=1024):=by
  rcases hg with hg | hg
  ·exact (gx.2.2 g hg).1
  ·exact (gy.2.2 g hg).1
 exact ⟨by rw [e]; exact hv,hb.1,by omega⟩
theorem zWe {a b:yC} (ha:∀ t∈a,VT t) (hb:∀ t∈b,VT t):∀ t∈zfw a b,GT t:=λt ht=>by
 obtain ⟨x,hx,y,hy,rfl⟩:=z84 ht;exact zUY (ha x hx) (hb y hy)
theorem zbiv {x y:Term} (hx:VT x) (hy:VT y):zpm x.Fs y.Fs=(true,zbR x.Fs y.Fs):=by
 obtain ⟨gx,sx,lx,ex⟩:=hx;obtain ⟨gy,sy,ly,ey⟩:=hy;exact zbiS (d:=9) (by omega) _ _ (by omega) (λf hf=>⟨zod (gx.2.2 f hf).1.1 (gx.2.2 f hf).1.2.2,by have:=(gx.2.2 f hf).2; omega⟩) λf hf=>by have:=(gy.2.2 f hf).2; omega
theorem zble (a b:yC) (i:Int) (x:Term) (hx:VT x) (hb:∀ t∈b,VT t) (hbl:b.length<=512) (terms:yC) (hl:terms.length<=1000000) (n:Nat) (hn:b.length<n):
  zM0 n b a a.length i b b.length 0 terms x=(true,(b,a,(a.length:Int),i,terms++b.map (zna x))):=by
 have hreach:zO=70368744177664:=rfl
 have:=zeb (W:=zEb) (z:=default) b.length (λj=>(b,(),(),a,(a.length:Int),i,b,(b.length:Int),(j:Int),())) (λj=>(terms++(b.take j).map (zna x),x,())) (λ_=>true) default (b,a,(a.length:Int),i,terms++b.map (zna x))
  (λj hj H K D=>by
   show (zqc b a a.length i b b.length j (terms++(b.take j).map (zna x)) x).ev H K D=_;unfold zqc;have hy:=hb _ (zp hj);have hr:decide (((terms++(b.take j).map (zna x)).length+1)*32<=zO)=true:=by simp only [qe,qg,List.length_map,List.length_take]; omega
   simp only [Wy.ev_i,Wy.ev_k,Wy.ev_h,Wy.ev_bn,Wy.ev_d,tT,hj,(zbcq hx.1.1 hy.1.1).1,zbiv hx hy,List.length_singleton,hr];rw [zN (by omega),zho hj,List.map_append, <- List.append_assoc]
   rfl)
  (λH K D=>by
   show (zqc b a a.length i b b.length b.length (terms++(b.take b.length).map (zna x)) x).ev H K D=_;unfold zqc;simp only [Wy.ev_i,Wy.ev_k,tT,Nat.lt_irrefl,List.take_length]) n hn
 rw [show zfk (λ_=>true) b.length 0=true from zev.2 λ_ _ _=>rfl] at this
 simp only [List.take_zero,List.map_nil,List.append_nil] at this;exact this
theorem zbk4 (a b:yC) (ha:∀ t∈a,VT t) (hb:∀ t∈b,VT t) (hal:a.length<=512) (hbl:b.length<=512) (n:Nat) (hn:a.length<n):
  zEz n b a a.length 0 []=(true,zfw a b):=by
 have:=zeb (W:=zEC) (z:=default) a.length (λi=>(b,(),a,(a.length:Int),(i:Int),())) (λi=>(zfw (a.take i) b,())) (λ_=>true) default (zfw a b)
  (λi hi H K D=>by
   show (zqj b a a.length i (zfw (a.take i) b)).ev H K D=_;unfold zqj;have hx:=ha _ (zp hi)
   have hlen:(zfw (a.take i) b).length<=1000000:=by
    rw [zRe,List.length_take];have:=Nat.mul_le_mul (show min i a.length<=512 by omega) hbl
    omega
   simp only [Wy.ev_i,Wy.ev_k,Wy.ev_h,Wy.ev_bn,Wy.ev_d,tT,hi];rw [zble a b i _ hx hb hbl _ hlen _ (by omega)]
   simp only [cond_true];rw [zN (by omega),zho hi]
   have e:zfw (a.take i++[a.getD i default]) b=zfw (a.take i) b++b.map (zna (a.getD i default)):=by
    unfold zfw; rw [List.flatMap_append]; simp
   rw [e])
  (λH K D=>by
   show (zqj b a a.length a.length (zfw (a.take a.length) b)).ev H K D=_;unfold zqj;simp only [Wy.ev_i,Wy.ev_k,tT,Nat.lt_irrefl,List.take_length]) n hn
 rw [show zfk (λ_=>true) a.length 0=true from zev.2 λ_ _ _=>rfl] at this
 exact this
theorem szTs_get' (a:yC) (i:Nat) (h:i<a.length):(a.getD i default).Fs.length<=zb9 a:=zPG a i h
theorem zbg6 (a b:yC) (i:Int) (k:Nat) (hk:k<b.length) (out:yC) (c:Int) (x:Term) (hx:VT x) (hy:VT (b.getD k default)) (n:Nat) (hn:(b.getD k default).Fs.length<n):
  zMI n a b i k 0 out c x.Fs=(true,(a,b,i,(k:Int),out,c,zbR x.Fs (b.getD k default).Fs)):=by
 obtain ⟨gx,sx,lx,ex⟩:=hx;obtain ⟨gy0,sy,ly,ey⟩:=hy;have gy:∀ f∈(b.getD k default).Fs,GF f:=gy0.2.2;have sy:Srf (b.getD k default).Fs:=sy;clear gy0;generalize hF:(b.getD k default).Fs=F at *
 have key:∀ j,j<F.length->zLD (F.getD j default) (zbR x.Fs (F.take j))=zbR x.Fs (F.take (j+1)):=λj hj=>by
  have e1:=zVp (F.take j) x.Fs (sy.sublist (List.take_sublist _ _)) (λz hz=>(ex z hz).1) λz hz=>(ey z (List.mem_of_mem_take hz)).1
  have e2:=zVp (F.take (j+1)) x.Fs (sy.sublist (List.take_sublist _ _)) (λz hz=>(ex z hz).1) λz hz=>(ey z (List.mem_of_mem_take hz)).1
  rw [<- e1, <- e2,zho hj,List.foldl_append]; rfl
 have:=zeb (W:=zEj) (z:=default) F.length (λj=>(a,b,(),i,(k:Int),(),(j:Int),())) (λj=>(out,(c,zbR x.Fs (F.take j),()),())) (λ_=>true) default (a,b,i,(k:Int),out,c,zbR x.Fs F)
  (λj hj H K D=>by
   show (zqm a b i k j out c (zbR x.Fs (F.take j))).ev H K D=_;unfold zqm;have hlen:=zQa x.Fs (F.take j);rw [List.length_take] at hlen;have hex:=λz (hz:z∈zbR x.Fs (F.take j))=>zO5 (B:=64) (λz hz=>⟨(gx.2.2 z hz).2.1,(ex z hz).2⟩) (λz hz=>⟨(gy z (List.mem_of_mem_take hz)).2.1,(ey z (List.mem_of_mem_take hz)).2⟩) hz
   have hfine:∀ z∈zbR x.Fs (F.take j),zdf (zo 9) z.At:=λz hz=>by
    obtain ⟨w,hw,e⟩:=zvt hz;rw [e];rcases hw with hw | hw
    ·exact zod (gx.2.2 w hw).1.1 (gx.2.2 w hw).1.2.2
    ·exact zod (gy w (List.mem_of_mem_take hw)).1.1 (gy w (List.mem_of_mem_take hw)).1.2.2
   have hm:=zp hj;have e1:decide ((k:Int)<Int.ofNat b.length)=true:=by simp [hk]
   have e2:decide ((j:Int)<Int.ofNat F.length)=true:=by simp [hj]
   have efx:(FO.mk (F.getD j default).At (F.getD j default).Exp:Fc)=F.getD j default:=rfl;simp only [At.eta,Wy.ev_i,Wy.ev_k,Wy.ev_h,Wy.ev_bn,Wy.ev_d,zfL,Bool.and_self,cond_true,Int.toNat_natCast,hF,e1,e2,efx];rw [zbjy (d:=9) _ _ (by omega) hfine (by omega) (λz hz=>by have:=hex z hz; omega) (by have:=(gy _ hm).2; omega),cond_true,zN (by omega),key j hj])
  (λH K D=>by
   show (zqm a b i k F.length out c (zbR x.Fs (F.take F.length))).ev H K D=_;unfold zqm;have e1:decide ((k:Int)<Int.ofNat b.length)=true:=by simp [hk]
   have e2:decide ((F.length:Int)<Int.ofNat F.length)=false:=by simp
   simp only [Wy.ev_i,Wy.ev_k,zfL,Bool.and_self,cond_true,cond_false,Int.toNat_natCast,hF,e1,e2,List.take_length]) n hn
 rw [show zfk (λ_=>true) F.length 0=true from zev.2 λ_ _ _=>rfl] at this
 simp only [List.take_zero,zRJ] at this;exact this
theorem zbix (a b:yC) (i:Nat) (hi:i<a.length) (hal:a.length<=512) (hbl:b.length<=512) (hx:VT (a.getD i default)) (hb:∀ t∈b,VT t) (out:yC) (ho:out.length<=i*512) (hs:Srs out) (hg:∀ t∈out,GT t) (n:Nat) (hn:b.length<n):
  zPS n a b i 0 out=(true,(a,b,(i:Int),zgy out (b.map (zna (a.getD i default))))):=by
 have:=zdk (W:=zFs) (z:=default) (l:=b) (λk (o:yC)=>(a,b,(),(i:Int),(k:Int),())) (λ_ o=>(o,())) (λy o=>.inl (zj8 (zna (a.getD i default) y) o)) (λo=>(a,b,(i:Int),o)) (λk o=>(o.length<=i*512+k/\Srs o)/\∀ t∈o,GT t)
  (λk o hk hI=>.inl ⟨_,rfl,⟨⟨by have:=z1T (t:=zna (a.getD i default) (b.getD k default)) o; omega,zF4 hI.1.2⟩,zbca (zUY hx (hb _ (zp hk))) hI.1.2 hI.2⟩,λH K D=>by
   show (zsN a b i k o).ev H K D=_;unfold zsN;have hy:=hb _ (zp hk);have hsz:=szTs_get' b k hk;simp only [Wy.ev_i,Wy.ev_k,Wy.ev_h,Wy.ev_bn,Wy.ev_d,tT,hk,hi,(zbcq hx.1.1 hy.1.1).2];rw [zbg6 a b i k hk o _ _ hx hy _ (by omega)]
   simp only [cond_true];have e:(TO.mk (zCV (a.getD i default).Cf (b.getD k default).Cf) (zbR (a.getD i default).Fs (b.getD k default).Fs):Term)=zna (a.getD i default) (b.getD k default):=rfl;have hg:=zUY hx hy;rw [e,zbd0 (d:=9) o _ (by omega) (λz hz=>(hI.2 z hz).fine) (by omega) (λz hz=>(hI.2 z hz).1) hg.1]
   simp only [cond_true];rw [zN (by omega)]⟩)
  (λo hI H K D=>by
   show (zsN a b i b.length o).ev H K D=_;unfold zsN;simp only [Wy.ev_i,Wy.ev_k,tT,Nat.lt_irrefl]) n 0 out (by omega) (by omega) (show (out.length<=i*512+0/\Srs out)/\∀ t∈out,GT t from ⟨⟨Nat.le_trans ho (Nat.le_add_right _ _),hs⟩,hg⟩)
 rw [List.drop_zero,zdl] at this
 have e:∀ (l:yC) (o:yC),l.foldl (λs t=>zj8 (zna (a.getD i default) t) s) o=zgy o (l.map (zna (a.getD i default))):=λl=>by
  induction l with
  | nil=>intro o; rfl
  | cons y r ih=>intro o; rw [List.foldl_cons,ih]; rfl
 rw [e] at this;exact this
theorem zbcW (o:yC) (b:yC) (x:Term):(zgy o (b.map (zna x))).length<=o.length+b.length:=by
 have:=zF2 (b.map (zna x)) o
 rwa [List.length_map] at this
theorem zbcQ (a b:yC) (ha:∀ t∈a,VT t) (hb:∀ t∈b,VT t) (hal:a.length<=512) (hbl:b.length<=512):zp4 a b=(true,zqO a b):=by
 unfold zp4 zRH
 have:=zdk (W:=zFy) (z:=default) (l:=a) (λi (o:yC)=>(a,b,(),(i:Int),())) (λ_ o=>(o,())) (λx o=>.inl (zgy o (b.map (zna x)))) (λo=>o) (λi o=>(o.length<=i*512/\Srs o)/\∀ t∈o,GT t)
  (λi o hi hI=>.inl ⟨_,rfl,⟨⟨by have:=zbcW o b (a.getD i default); omega,z1v _ _ hI.1.2⟩,zKu _ _ hI.1.2 hI.2 λt ht=>by
    obtain ⟨y,hy,rfl⟩:=List.mem_map.1 ht;exact zUY (ha _ (zp hi)) (hb y hy)⟩,λH K D=>by
   show (zsc a b i o).ev H K D=_;unfold zsc;have e1:decide ((i:Int)<Int.ofNat a.length)=true:=by simp [hi]
   simp only [Wy.ev_i,Wy.ev_k,Wy.ev_h,Wy.ev_bn,Wy.ev_d,e1,cond_true];rw [zbix a b i hi hal hbl (ha _ (zp hi)) hb o hI.1.1 hI.1.2 hI.2 _ (by omega)]
   simp only [cond_true];rw [zN (by omega)]⟩)
  (λo hI H K D=>by
   show (zsc a b a.length o).ev H K D=_;unfold zsc;have e1:decide ((a.length:Int)<Int.ofNat a.length)=false:=by simp
   simp only [Wy.ev_i,Wy.ev_k,e1,cond_false]) ((a.length+b.length+Int.toNat (0:Int)+(0:Nat)+(1:Nat))+zb9 a+zb9 b+zb9 []) 0 [] (by omega) (by omega) ⟨⟨by simp,.nil⟩,λt ht=>by cases ht⟩
 rw [List.drop_zero,zdl] at this
 have e:∀ (l:yC) (o:yC),l.foldl (λs x=>zgy s (b.map (zna x))) o=zgy o (zfw l b):=λl=>by
  induction l with
  | nil=>intro o; rfl
  | cons y r ih=>
   intro o;rw [List.foldl_cons,ih];show _=(zfw (y::r) b).foldl (λa t=>zj8 t a) o
   unfold zfw;rw [List.flatMap_cons,List.foldl_append]; rfl
 rw [e] at this;have this:zPd ((a.length+b.length+Int.toNat (0:Int)+(0:Nat)+(1:Nat))+zb9 a+zb9 b+zb9 []) a b 0 []=(true,zqO a b):=this;rw [Wy.fin_bn,this]; rfl
theorem zbdM (a b:yC) (ha:∀ t∈a,GT t) (hb:∀ t∈b,GT t) (hs:Srs a) (hal:a.length<=512) (hbl:b.length<=512):zGj a b=(true,zgy a b):=by
 unfold zGj z3G
 have:=zdk (W:=zPq) (z:=default) (l:=b) (λi (o:yC)=>(o,b,(i:Int),())) (λ_ o=>()) (λx o=>.inl (zj8 x o)) (λo=>o) (λi o=>(o.length<=512+i/\Srs o)/\∀ t∈o,GT t)
  (λi o hi hI=>.inl ⟨_,rfl,⟨⟨by have:=z1T (t:=b.getD i default) o; omega,zF4 hI.1.2⟩,zbca (hb _ (zp hi)) hI.1.2 hI.2⟩,λH K D=>by
   show (zCD o b i).ev H K D=_;unfold zCD;simp only [Wy.ev_i,Wy.ev_k,Wy.ev_h,Wy.ev_bn,Wy.ev_d,tT,hi];rw [zbd0 (d:=9) o _ (by omega) (λz hz=>(hI.2 z hz).fine) (by omega) (λz hz=>(hI.2 z hz).1) (hb _ (zp hi)).1,cond_true,zN (by omega)]⟩)
  (λo hI H K D=>by
   show (zCD o b b.length).ev H K D=_;unfold zCD;simp only [Wy.ev_i,Wy.ev_k,tT,Nat.lt_irrefl]) (a.length+b.length+Int.toNat (0:Int)+(1:Nat)) 0 a (by omega) (by omega) ⟨⟨by omega,hs⟩,ha⟩
 rw [List.drop_zero,zdl] at this;have this:zY0 (a.length+b.length+Int.toNat (0:Int)+(1:Nat)) a b 0=(true,zgy a b):=this;rw [Wy.fin_bn,this]; rfl
def okA (a:yC):Prop:=(zo 12 a/\zL a<=4611686018427387904)/\zg3 a/\a.length<=zbm
def opR (ok:Bool) (r:yC×Int):yC×Int:=bif ok then r else ([],1)
def zFo (a b:yC):yC×Int:=opR (zU a&&zU b) (zoH (zgy a b))
def zEl (a b:yC):yC×Int:=opR (zU a&&zU b) (zoH (zqO a b))
def zbfa (a b:yC):At:=⟨1,⟨0,0⟩,[a,b],0,[],0,⟨0,0,ByteArray.mk #[]⟩⟩
def zZs (a:yC):At:=⟨2,⟨0,0⟩,[a],0,[],0,⟨0,0,ByteArray.mk #[]⟩⟩
def zbeH (a:yC):At:=⟨3,⟨0,0⟩,[a],0,[],0,⟨0,0,ByteArray.mk #[]⟩⟩
def zOe (a b:yC):yC×Int:=opR (zU a&&zU b) (if b=[] then (a,0) else if a=[]\/a=b then ([],0) else zoH (zcB (zbfa a b)))
def zPk (a:yC):yC×Int:=opR (zU a) (if a=[]\/isU a=true then (a,0) else if isC a=true then ([⟨1,[]⟩],0) else zoH (zcB (zZs a)))
def zOV (a:yC):yC×Int:=opR (zU a) (if a=[] then ([⟨1,[]⟩],0) else if zv7 a=true then ([],0) else zoH (zcB (zbeH a)))
theorem okA.valid {a:yC} (h:okA a):zbZ a=(true,zU a):=zQ8 h.1.1 (by omega) h.1.2
theorem okA.rvalid {a:yC} (h:okA a):zgv a=(true,zU a):=z7c h.1.1 (by omega) h.1.2
theorem zbjY {a b:yC} (ha:okA a) (hb:okA b):zxj a b=(true,zFo a b)/\zLp a b=(true,zFo a b):=by
 unfold zxj zOB zLp zS6 zFo;simp only [Wy.fin_bn,Wy.fin_i,Wy.fin_k,ha.valid,hb.valid,ha.rvalid,hb.rvalid,cond_true];cases va:zU a with
 | false=>first | exact ⟨trivial,trivial⟩ | exact ⟨rfl,rfl⟩ | exact ⟨trivial,rfl⟩ | exact ⟨rfl,trivial⟩
 | true=>
  cases vb:zU b with
  | false=>first | exact ⟨trivial,trivial⟩ | exact ⟨rfl,rfl⟩ | exact ⟨trivial,rfl⟩ | exact ⟨rfl,trivial⟩
  | true=>
   obtain ⟨sa,la,ta⟩:=znQ va ha.2.1;obtain ⟨sb,lb,tb⟩:=znQ vb hb.2.1;have ga:∀ t∈a,GT t:=λt ht=>(ta t ht).1
   have gb:∀ t∈b,GT t:=λt ht=>(tb t ht).1
   have hc:=zbgG [a,b] (by simp) (λl hl=>by
    simp only [qd,List.not_mem_nil,or_false] at hl;rcases hl with rfl | rfl <;>omega)
   have e:[a,b].flatten=a++b:=by simp
   have hcol:=z7i (a++b) (by simp; omega) λt ht=>by
    rcases List.mem_append.1 ht with ht | ht
    ·exact ga t ht
    ·exact gb t ht
   rw [e] at hc;rw [zbjw a b sa] at hcol;have hsl:(zgy a b).length<=1000000:=by have:=zF2 b a; omega
   obtain ⟨f1,f2⟩:=z0T hsl (zKu b a sa ga gb);simp only [Bool.not_true,cond_false,Bool.and_self,hc,hcol,zDD f1 (by omega:10<=100) f2,zbdM a b ga gb sa la lb,zC8 f1 (by omega:10<=100) f2,cond_true]
   first | exact ⟨trivial,trivial⟩ | exact ⟨rfl,rfl⟩ | exact ⟨trivial,rfl⟩ | exact ⟨rfl,trivial⟩
theorem zbkp {a b:yC} (ha:okA a) (hb:okA b):zxQ a b=(true,zEl a b)/\zKC a b=(true,zEl a b):=by
 unfold zxQ zPn zKC zSD zEl;simp only [Wy.fin_bn,Wy.fin_i,Wy.fin_k,ha.valid,hb.valid,ha.rvalid,hb.rvalid,cond_true];cases va:zU a with
 | false=>first | exact ⟨trivial,trivial⟩ | exact ⟨rfl,rfl⟩ | exact ⟨trivial,rfl⟩ | exact ⟨rfl,trivial⟩
 | true=>
  cases vb:zU b with
  | false=>first | exact ⟨trivial,trivial⟩ | exact ⟨rfl,rfl⟩ | exact ⟨trivial,rfl⟩ | exact ⟨rfl,trivial⟩
  | true=>
   obtain ⟨sa,la,ta⟩:=znQ va ha.2.1;obtain ⟨sb,lb,tb⟩:=znQ vb hb.2.1;have hm:=zbk4 a b ta tb la lb (b.length+a.length+(Int.ofNat a.length).toNat +Int.toNat (0:Int)+(0:Nat)+(1:Nat)) (by omega)
   have hm:zEz (b.length+a.length+(Int.ofNat a.length).toNat +Int.toNat (0:Int)+(0:Nat)+(1:Nat)) b a (Int.ofNat a.length) 0 []=_:=hm;have hpl:(zfw a b).length<=1000000:=by rw [zRe]; have:=Nat.mul_le_mul la lb; omega
   have hcol:=z7i (zfw a b) hpl (zWe ta tb);have hsl:(zqO a b).length<=1000000:=by have:=zF2 (zfw a b) []; simp at this; exact Nat.le_trans this hpl
   obtain ⟨f1,f2⟩:=z0T hsl (zKu (zfw a b) [] .nil (λt ht=>by cases ht) (zWe ta tb))
   have f1:zo 10 (zqO a b):=f1;have f2:zL (zqO a b)<=4611686018427387904:=f2;have hcol:zix (zfw a b)=(true,zqO a b):=hcol;simp only [Bool.not_true,cond_false,Bool.and_self,hm,hcol,zDD f1 (by omega:10<=100) f2,zbcQ a b ta tb la lb,zC8 f1 (by omega:10<=100) f2,cond_true]
   first | exact ⟨trivial,trivial⟩ | exact ⟨rfl,rfl⟩ | exact ⟨trivial,rfl⟩ | exact ⟨rfl,trivial⟩
theorem zFq {l:yA} {k:Int} (hl:l.length<=2) (h:∀ a∈l,zU a=true):zo 10 (zcB ⟨k,⟨0,0⟩,l,0,[],0,⟨0,0,ByteArray.mk #[]⟩⟩)/\zL (zcB ⟨k,⟨0,0⟩,l,0,[],0,⟨0,0,ByteArray.mk #[]⟩⟩)<=4611686018427387904:=by
 constructor
 ·exact zQ3 ⟨⟨by simp only; omega,by simp,by show (ByteArray.mk #[]).size<=_; decide⟩,λa ha=>(ze5 (h a ha)).1,λw hw=>(by cases hw)⟩
 ·rw [z5p,zhT]
  have hb:∀ l:yA,(∀ a∈l,zU a=true)->zfP l<=l.length*4096:=λl=>by
   induction l with
   | nil=>intro _; rw [zhx]; simp
   | cons a r ih=>
    intro h;have h1:=(ze5 (h a (by simp))).2.1
    have h2:=ih λb hb=>h b (by simp [hb])
    rw [zfp,qf,Nat.add_mul]; omega
  have:=hb l h;show 2+(zfP l+zdC [])<=_;rw [zgr];have:=Nat.mul_le_mul hl (Nat.le_refl 4096);omega
theorem zN9 (a:yC):(Int.ofNat a.length==(0:Int))=decide (a=[]):=by
 rw [show (Int.ofNat a.length==(0:Int))=(a.length==0) from zzk _ 0,z4p]
 congr 1;rw [List.length_eq_zero_iff]
theorem zbhs {a b:yC} (ha:okA a) (hb:okA b):zr3 a b=(true,zOe a b)/\zEY a b=(true,zOe a b):=by
 unfold zr3 zKA zEY zMj zOe;simp only [Wy.fin_bn,Wy.fin_i,Wy.fin_k,ha.valid,hb.valid,ha.rvalid,hb.rvalid,cond_true];cases va:zU a with
 | false=>first | exact ⟨trivial,trivial⟩ | exact ⟨rfl,rfl⟩ | exact ⟨trivial,rfl⟩ | exact ⟨rfl,trivial⟩
 | true=>
  cases vb:zU b with
  | false=>first | exact ⟨trivial,trivial⟩ | exact ⟨rfl,rfl⟩ | exact ⟨trivial,rfl⟩ | exact ⟨rfl,trivial⟩
  | true=>
   obtain ⟨f1,f2⟩:=zFq (l:=[a,b]) (k:=1) (by simp) (λx hx=>by
    simp only [qd,List.not_mem_nil,or_false] at hx;rcases hx with rfl | rfl
    ·exact va
    ·exact vb)
   simp only [Bool.not_true,cond_false,Bool.and_self,zN9,zKX ha.1.1 (by omega:12<=100),znC ha.1.1 (by omega:12<=100),zMA ha.1.1 (by omega:12<=100),zKL,zGa,zDD f1 (by omega:10<=100) f2,zC8 f1 (by omega:10<=100) f2,cond_true,opR]
   by_cases hb0:b=[]
   ·simp only [hb0,decide_true,cond_true,if_true]; exact ⟨trivial,trivial⟩
   ·by_cases ha0:a=[]
    ·simp only [hb0,ha0,decide_true,decide_false,cond_true,cond_false,if_true,if_false,true_or]; exact ⟨trivial,trivial⟩
    ·by_cases hab:a=b
     ·simp only [hb0,ha0,hab,decide_true,decide_false,cond_true,cond_false,if_true,if_false,or_true]; exact ⟨trivial,trivial⟩
     ·simp only [hb0,ha0,hab,decide_false,cond_false,if_false,or_self]; first | exact ⟨trivial,trivial⟩ | exact ⟨rfl,rfl⟩ | exact ⟨trivial,rfl⟩ | exact ⟨rfl,trivial⟩
theorem zbhp {a:yC} (ha:okA a):zsJ a=(true,zPk a)/\zvN a=(true,zPk a):=by
 unfold zsJ zKc zvN zLX zPk;simp only [Wy.fin_bn,Wy.fin_i,Wy.fin_k,ha.valid,ha.rvalid,cond_true];cases va:zU a with
 | false=>first | exact ⟨trivial,trivial⟩ | exact ⟨rfl,rfl⟩ | exact ⟨trivial,rfl⟩ | exact ⟨rfl,trivial⟩
 | true=>
  obtain ⟨f1,f2⟩:=zFq (l:=[a]) (k:=2) (by simp) (λx hx=>by rw [qh] at hx; subst hx; exact va)
  have hla:a.length<=1000000000:=by have:=(ze5 va).2.2; omega
  have hbu:isB a=isU a:=zPK va;simp only [Bool.not_true,cond_false,zN9,zKX ha.1.1 (by omega:12<=100),z9g,zXi,zHd,zqg a hla,zKL,zGa,zDD f1 (by omega:10<=100) f2,zC8 f1 (by omega:10<=100) f2,cond_true,opR,hbu]
  rw [show zoH (zcB ⟨2,⟨0,0⟩,[a],0,[],0,⟨0,0,ByteArray.mk #[]⟩⟩)=zoH (zcB (zZs a)) from rfl]
  clear f1 f2;generalize zoH (zcB (zZs a))=R;by_cases h0:a=[]
  ·simp only [h0,decide_true,cond_true,if_true,true_or]; exact ⟨trivial,trivial⟩
  ·cases hu:isU a with
   | true=>simp only [h0,decide_false,cond_false,cond_true,if_true,or_true]; exact ⟨trivial,trivial⟩
   | false=>
    simp only [h0,decide_false,cond_false,if_false,or_self,Bool.false_eq_true]
    match a,h0 with
    | [t],_=>
     have e1:zv7 [t]=(t.Fs.length==0):=by simp [zv7]
     have e2:isC [t]=(t.Fs.length==0):=rfl;rw [e1,e2];cases (t.Fs.length==0) with
     | true=>simp only [cond_true,if_true]; first | exact ⟨trivial,trivial⟩ | exact ⟨rfl,rfl⟩ | exact ⟨trivial,rfl⟩ | exact ⟨rfl,trivial⟩
     | false=>simp only [cond_false,cond_true,Bool.false_eq_true,if_false]; first | exact ⟨trivial,trivial⟩ | exact ⟨rfl,rfl⟩ | exact ⟨trivial,rfl⟩ | exact ⟨rfl,trivial⟩
    | t::s::r,_=>
     have e2:isC (t::s::r)=false:=rfl;simp only [zOz,e2,cond_false,cond_true,Bool.false_eq_true,if_false]
     first | exact ⟨trivial,trivial⟩ | exact ⟨rfl,rfl⟩ | exact ⟨trivial,rfl⟩ | exact ⟨rfl,trivial⟩
theorem zbfJ {a:yC} (ha:okA a):zqk a=(true,zOV a)/\zCp a=(true,zOV a):=by
 unfold zqk zIB zCp zJr zOV;simp only [Wy.fin_bn,Wy.fin_i,Wy.fin_k,ha.valid,ha.rvalid,cond_true];cases va:zU a with
 | false=>first | exact ⟨trivial,trivial⟩ | exact ⟨rfl,rfl⟩ | exact ⟨trivial,rfl⟩ | exact ⟨rfl,trivial⟩
 | true=>
  obtain ⟨f1,f2⟩:=zFq (l:=[a]) (k:=3) (by simp) (λx hx=>by rw [qh] at hx; subst hx; exact va)
  have hla:a.length<=1000000000:=by have:=(ze5 va).2.2; omega
  simp only [Bool.not_true,cond_false,zN9,zUK a hla,zqg a hla,zKL,zGa,zDD f1 (by omega:10<=100) f2,zC8 f1 (by omega:10<=100) f2,cond_true,opR]
  by_cases h0:a=[]
  ·simp only [h0,decide_true,cond_true,if_true]; first | exact ⟨trivial,trivial⟩ | exact ⟨rfl,rfl⟩ | exact ⟨trivial,rfl⟩ | exact ⟨rfl,trivial⟩
  ·cases hu:zv7 a with
   | true=>simp only [h0,decide_false,cond_false,cond_true,if_true,if_false]; exact ⟨trivial,trivial⟩
   | false=>simp only [h0,decide_false,cond_false,if_false,Bool.false_eq_true]; first | exact ⟨trivial,trivial⟩ | exact ⟨rfl,rfl⟩ | exact ⟨trivial,rfl⟩ | exact ⟨rfl,trivial⟩
theorem zYJ {n:Int} (h:rng n):wf3 n:=by
 show (Lit.int .i64 n).wf=true;have:IntKind.i64.min<=n/\n<=IntKind.i64.max:=⟨h.1,h.2⟩
 simpa [Lit.wf] using this
theorem zZF {t:Term} (hc:rng t.Cf) (hf:∀ f∈t.Fs,zgG f.At/\rng f.Exp) (hl:t.Fs.length<=1000000):zEH t:=by
 obtain ⟨c,fs⟩:=t;unfold zEH;refine ⟨zYJ hc,zPT fs λf h=> ?_,by have:zbm=140737488351232:=rfl; simp only at hl; omega⟩
 obtain ⟨x,e⟩:=f;unfold zze;exact ⟨(hf _ h).1,zYJ (hf _ h).2⟩
def okR (r:yC×Int):Prop:=okA r.1/\(r.2=0\/r.1=[])
theorem zlu:okA []:=⟨⟨zbhl 11,by rw [zuZ]; omega⟩,by unfold zg3; trivial,by simp⟩
theorem zN7 {a:yC} (h:okA a):okR (zoH a):=by
 unfold zoH;cases zf4 a with
 | true=>exact ⟨h,.inl rfl⟩
 | false=>exact ⟨zlu,.inr rfl⟩
theorem z02 {ok:Bool} {r:yC×Int} (h:ok=true->okR r):okR (opR ok r):=by
 unfold opR;cases ok with
 | true=>exact h rfl
 | false=>exact ⟨zlu,.inr rfl⟩
theorem z1I {l:yC} (hl:l.length<=1000000) (h:∀ t∈l,GT t):okA l:=by
 obtain ⟨h1,h2⟩:=z0T hl h;refine ⟨⟨h1.mono (by omega),h2⟩,zI7 l λt ht=> ?_,by have:zbm=140737488351232:=rfl; omega⟩
 have hg:=h t ht;exact zZF ⟨by have:=hg.1.1; omega,by have:=hg.1.2; omega⟩ (λf hf=>⟨(hg.2.2 f hf).1.2.1,(hg.2.2 f hf).gF.2.2⟩) (by have:=hg.2.1; omega)
theorem z8X {a b:yC} (ha:okA a) (hb:okA b):okR (zFo a b):=z02 λhv=>by
 rw [qc] at hv;obtain ⟨sa,la,ta⟩:=znQ hv.1 ha.2.1;obtain ⟨sb,lb,tb⟩:=znQ hv.2 hb.2.1;exact zN7 (z1I (by have:=zF2 b a; omega) (zKu b a sa (λt ht=>(ta t ht).1) λt ht=>(tb t ht).1))
theorem z8Z {a b:yC} (ha:okA a) (hb:okA b):okR (zEl a b):=z02 λhv=>by
 rw [qc] at hv;obtain ⟨sa,la,ta⟩:=znQ hv.1 ha.2.1;obtain ⟨sb,lb,tb⟩:=znQ hv.2 hb.2.1;have hpl:(zfw a b).length<=1000000:=by rw [zRe]; have:=Nat.mul_le_mul la lb; omega
 exact zN7 (z1I (by have:=zF2 (zfw a b) []; simp at this; exact Nat.le_trans this hpl) (zKu (zfw a b) [] .nil (λt ht=>by cases ht) (zWe ta tb)))
theorem zbbN {x:At} (hf:zdf (zo 9) x) (hs:zL (zcB x)<=4611686018427387904) (hw:zgG x):okA (zcB x):=by
 refine ⟨⟨(zQ3 hf).mono (by omega),hs⟩,zI7 _ λt ht=> ?_,by simp [zcB,zbm]⟩
 simp only [zcB,qh] at ht;subst ht;refine zZF ⟨by simp,by simp⟩ (λf hf=> ?_) (by simp)
 simp only [qh] at hf;subst hf;exact ⟨hw,⟨by simp,by simp⟩⟩
theorem zZI {n:Int} (h: -1000<=n/\n<=1000):rng n:=⟨by omega,by omega⟩
theorem zrx:wf3 0:=zYJ (zZI (by omega))
theorem zZX {l:yA} {k:Int} (hk:0<=k/\k<=4) (hl:l.length<=2) (h:∀ a∈l,zU a=true) (hw:∀ a∈l,okA a):okA (zcB ⟨k,⟨0,0⟩,l,0,[],0,⟨0,0,ByteArray.mk #[]⟩⟩):=by
 refine zbbN ⟨⟨by simp only; omega,by simp,by show (ByteArray.mk #[]).size<=_; decide⟩,λa ha=>(ze5 (h a ha)).1,λw hw=>(by cases hw)⟩ (zFq hl h).2 ?_
 unfold zgG;have hr:zbm=140737488351232:=rfl;refine ⟨zYJ (zZI (by omega)),⟨zrx,zrx⟩,⟨z0f l λa ha=>⟨(hw a ha).2.1,(hw a ha).2.2⟩,by omega⟩,zrx,⟨by unfold zuq; trivial,by simp⟩,zrx,⟨zrx,zrx, ?_⟩⟩
 show (ByteArray.mk #[]).size<=zbm;rw [hr]; decide
theorem z7L {a b:yC} (ha:okA a) (hb:okA b):okR (zOe a b):=z02 λhv=>by
 rw [qc] at hv;split
 ·exact ⟨ha,.inl rfl⟩
 ·split
  ·exact ⟨zlu,.inl rfl⟩
  ·refine zN7 (zZX (by omega) (by simp) (λx hx=> ?_) λx hx=> ?_)
   ·simp only [qd,List.not_mem_nil,or_false] at hx;rcases hx with rfl | rfl
    ·exact hv.1
    ·exact hv.2
   ·simp only [qd,List.not_mem_nil,or_false] at hx;rcases hx with rfl | rfl
    ·exact ha
    ·exact hb
theorem z1N (c:Int) (hc:1<=c/\c<=1152921504606846976):okA [⟨c,[]⟩]:=z1I (by simp) λt ht=>by
 rw [qh] at ht; subst ht;exact ⟨hc,by simp,λf hf=>by cases hf⟩
theorem z8Y {a:yC} (ha:okA a):okR (zPk a):=z02 λhv=>by
 split
 ·exact ⟨ha,.inl rfl⟩
 ·split
  ·exact ⟨z1N 1 (by omega),.inl rfl⟩
  ·exact zN7 (zZX (by omega) (by simp) (λx hx=>by rw [qh] at hx; subst hx; exact hv) λx hx=>by rw [qh] at hx; subst hx; exact ha)
theorem z79 {a:yC} (ha:okA a):okR (zOV a):=z02 λhv=>by
 split
 ·exact ⟨z1N 1 (by omega),.inl rfl⟩
 ·split
  ·exact ⟨zlu,.inl rfl⟩
  ·exact zN7 (zZX (by omega) (by simp) (λx hx=>by rw [qh] at hx; subst hx; exact hv) λx hx=>by rw [qh] at hx; subst hx; exact ha)
def zvm (n:Int):yC:=if n<1 then [] else [⟨if 1152921504606846976<n then 1152921504606846976 else n,[]⟩]
def zv4 (id:RowID):yC:=bif zDv id then zcB ⟨0,id,[],0,[],0,⟨0,0,ByteArray.mk #[]⟩⟩ else []
theorem zbhP (n:Int):zsu n=(true,zvm n)/\zvn n=(true,zvm n):=by
 unfold zsu zLi zvn zMg zvm;by_cases h:n<1
 ·simp only [Wy.fin_i,Wy.fin_k,h,decide_true,cond_true,if_true]; exact ⟨trivial,trivial⟩
 ·simp only [Wy.fin_i,Wy.fin_k,h,decide_false,cond_false,if_false]; exact ⟨trivial,trivial⟩
theorem zbfO (id:RowID):zxo id=(true,zv4 id)/\zFA id=(true,zv4 id):=by
 unfold zxo zOY zFA z3A zv4 zDv;simp only [Wy.fin_i,Wy.fin_bn,Wy.fin_k,zHe,zKL,zGa,cond_true];unfold zDv
 have e1:decide (id.Table<1)= !decide (id.Table≥1):=by
  by_cases h:id.Table<1
  ·have:¬ id.Table≥1:=by omega
   simp only [h,this,decide_true,decide_false,Bool.not_false]
  ·have:id.Table≥1:=by omega
   simp only [h,this,decide_true,decide_false,Bool.not_true]
 have e2:decide (id.Seq<1)= !decide (id.Seq≥1):=by
  by_cases h:id.Seq<1
  ·have:¬ id.Seq≥1:=by omega
   simp only [h,this,decide_true,decide_false,Bool.not_false]
  ·have:id.Seq≥1:=by omega
   simp only [h,this,decide_true,decide_false,Bool.not_true]
 rw [e1,e2];cases decide (id.Table≥1) <;>cases decide (id.Seq≥1) <;>exact ⟨rfl,rfl⟩
theorem zbb0 (n:Int):okA (zvm n):=by
 unfold zvm;split
 ·exact zlu
 ·refine z1N _ ?_;split <;>omega
theorem zbjN {id:RowID} (h:zZn id):okA (zv4 id):=by
 unfold zv4;cases hr:zDv id with
 | false=>exact zlu
 | true=>
  refine zbbN ⟨⟨by simp,by simp,by show (ByteArray.mk #[]).size<=_; decide⟩,λa ha=>(by cases ha),λw hw=>(by cases hw)⟩ (by rw [z5p,zhT,zhx,zgr]; omega) ?_
  unfold zgG;refine ⟨zrx,h,⟨by unfold zz4; trivial,by simp⟩,zrx,⟨by unfold zuq; trivial,by simp⟩,zrx,⟨zrx,zrx, ?_⟩⟩
  show (ByteArray.mk #[]).size<=zbm;have hr:zbm=140737488351232:=rfl;rw [hr]; decide
theorem zbik {a:yC} {n:Nat} (hn:n<=1000) (h:zo 12 a/\ze4 a<=n) (hw:zbaW a):okA a:=⟨⟨h.1,by have:=zNy a; omega⟩,hw.1,hw.2⟩
def MF (l:yD):Prop:=Srf l/\∀ f∈l,eOK f/\1<=f.Exp
theorem MF.tail {f:Fc} {l:yD} (h:MF (f::l)):MF l:=⟨(qi.1 h.1).2,λg hg=>h.2 g (by simp [hg])⟩
theorem MF.nil:MF []:=⟨List.Pairwise.nil,λf hf=>by cases hf⟩
theorem cF_self' {x y:Fc} (h:x.At=y.At):cF x y=0:=by unfold cF; rw [h]; exact zLa _
theorem MF.ne {f:Fc} {l:yD} (h:MF (f::l)):∀ g∈l,g.At≠f.At:=λg hg e=>by
 have:=(qi.1 h.1).1 g hg;rw [cF_self' e.symm] at this; omega
theorem zbhF {a b:yD}:Srf a->Srf b->Srf (zbR a b):=by
 induction a,b using zbR.induct with
 | case1 b=>intro _ hb; rw [zbR]; exact hb
 | case2 x a=>intro ha _; rw [zbR]; exact ha
 | case3 x a y b h ih=>
  intro ha hb;have ca:=qi.1 ha;rw [zbR,if_pos h];refine qi.2 ⟨λz hz=> ?_,ih ca.2 hb⟩
  obtain ⟨w,hw,e⟩:=zvt hz;have:cF x z=cF x w:=by unfold cF; rw [e]
  rw [this];rcases hw with hw | hw
  ·exact ca.1 w hw
  ·rcases qd.1 hw with rfl | hw
   ·exact h
   ·exact zIP h ((qi.1 hb).1 w hw)
 | case4 x a y b h h2 ih=>
  intro ha hb;have cb:=qi.1 hb;rw [zbR,if_neg h,if_pos h2];have h3:cF y x<0:=by rw [zbi6 x y]; omega
  refine qi.2 ⟨λz hz=> ?_,ih ha cb.2⟩
  obtain ⟨w,hw,e⟩:=zvt hz;have:cF y z=cF y w:=by unfold cF; rw [e]
  rw [this];rcases hw with hw | hw
  ·rcases qd.1 hw with rfl | hw
   ·exact h3
   ·exact zIP h3 ((qi.1 ha).1 w hw)
  ·exact cb.1 w hw
 | case5 x a y b h h2 ih=>
  intro ha hb;have ca:=qi.1 ha;have cb:=qi.1 hb;have h0:x.At=y.At:=zbdL (by omega)
  rw [zbR,if_neg h,if_neg h2];have hA:(if x.At.Kind=3\/x.At.Kind=4 then x else ⟨x.At,x.Exp+y.Exp⟩:Fc).At=x.At:=by split <;>rfl
  refine qi.2 ⟨λz hz=> ?_,ih ca.2 cb.2⟩
  obtain ⟨w,hw,e⟩:=zvt hz;have:cF (if x.At.Kind=3\/x.At.Kind=4 then x else ⟨x.At,x.Exp+y.Exp⟩:Fc) z=cF x w:=by unfold cF; rw [e,hA]
  rw [this];rcases hw with hw | hw
  ·exact ca.1 w hw
  ·have:cF x w=cF y w:=by unfold cF; rw [h0]
   rw [this]; exact cb.1 w hw
theorem zbhw {a b:yD}:(∀ f∈a,eOK f/\1<=f.Exp)->(∀ f∈b,eOK f/\1<=f.Exp)->∀ f∈zbR a b,eOK f/\1<=f.Exp:=by
 induction a,b using zbR.induct with
 | case1 b=>intro _ hb; rw [zbR]; exact hb
 | case2 x a=>intro ha _; rw [zbR]; exact ha
 | case3 x a y b h ih=>
  intro ha hb f hf;rw [zbR,if_pos h] at hf;rcases qd.1 hf with rfl | hf
  ·exact ha _ (by simp)
  ·exact ih (λg hg=>ha g (by simp [hg])) hb f hf
 | case4 x a y b h h2 ih=>
  intro ha hb f hf;rw [zbR,if_neg h,if_pos h2] at hf;rcases qd.1 hf with rfl | hf
  ·exact hb _ (by simp)
  ·exact ih ha (λg hg=>hb g (by simp [hg])) f hf
 | case5 x a y b h h2 ih=>
  intro ha hb f hf;rw [zbR,if_neg h,if_neg h2] at hf;rcases qd.1 hf with rfl | hf
  ·have h1:=ha x (by simp)
   have h2:=hb y (by simp)
   split
   ·exact h1
   ·rename_i hk;exact ⟨⟨h1.1.1,λh=>absurd h hk⟩,by show 1<=x.Exp+y.Exp; omega⟩
  ·exact ih (λg hg=>ha g (by simp [hg])) (λg hg=>hb g (by simp [hg])) f hf
theorem zbji {a b:yD} (ha:MF a) (hb:MF b):MF (zbR a b):=⟨zbhF ha.1 hb.1,zbhw ha.2 hb.2⟩
def EqS (n m:Nat):Prop:=n=m\/(1152921504606846976<=n/\1152921504606846976<=m)
theorem EqS.refl (n:Nat):EqS n n:=.inl rfl
theorem EqS.symm {n m:Nat} (h:EqS n m):EqS m n:=by unfold EqS at *; omega
theorem EqS.trans {n m k:Nat} (h:EqS n m) (h':EqS m k):EqS n k:=by unfold EqS at *; omega
theorem EqS.add {n m n' m':Nat} (h:EqS n n') (h':EqS m m'):EqS (n+m) (n'+m'):=by unfold EqS at *; omega
theorem EqS.mul1 {n n':Nat} (k:Nat) (h:EqS n n'):EqS (n*k) (n'*k):=by
 rcases h with rfl | ⟨h1,h2⟩
 ·exact .refl _
 ·rcases Nat.eq_zero_or_pos k with rfl | hk
  ·exact .inl (by simp)
  ·exact .inr ⟨Nat.le_trans h1 (Nat.le_mul_of_pos_right n hk),Nat.le_trans h2 (Nat.le_mul_of_pos_right n' hk)⟩
theorem EqS.mul {n m n' m':Nat} (h:EqS n n') (h':EqS m m'):EqS (n*m) (n'*m'):=by
 refine (h.mul1 m).trans ?_;rw [Nat.mul_comm n' m,Nat.mul_comm n' m'];exact h'.mul1 n'
def PA (a:yC):Prop:=Srs a/\∀ t∈a,cOK t/\MF t.Fs
theorem PA.c {a:yC} (h:PA a):∀ t∈a,cOK t:=λt ht=>(h.2 t ht).1
theorem zbjC {a b:yC} (ha:PA a) (hb:PA b):PA (zgy a b):=⟨z1v _ _ ha.1,λt ht=>⟨zbic b ha.c hb.c t ht,by
 obtain ⟨x,hx,e⟩:=zT1 b a ha.1 ht;rw [e];rcases hx with hx | hx
 ·exact (ha.2 x hx).2
 ·exact (hb.2 x hx).2⟩⟩
theorem PA.nil:PA []:=⟨List.Pairwise.nil,λt ht=>by cases ht⟩
theorem zber {c:Int} (h:c<=1152921504606846976):zCV c 1=c:=by
 unfold zCV;rw [if_neg (by rw [Int.tdiv_one]; omega)]; omega
end Go.Proofs.YtljlfiomikifjaaGreatDoor
end
