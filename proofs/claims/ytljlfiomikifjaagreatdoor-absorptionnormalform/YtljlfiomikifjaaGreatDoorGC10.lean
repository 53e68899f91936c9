/- Texts of this claim, joined (the program, its functions in plain words, and what they compute). -/
import Derived.Test.YtljlfiomikifjaaGreatDoorGC9
set_option autoImplicit false
set_option linter.unusedVariables false
set_option linter.unusedSectionVars false
set_option linter.unusedSimpArgs false
set_option maxRecDepth 1000000
set_option maxHeartbeats 0
/- Items and Test: both sides compute the same. -/
noncomputable section
namespace Go.Proofs.YtljlfiomikifjaaGreatDoor
open Go Go.Ab
section
variable {α β ρ τ:Type} [Inhabited τ]
theorem z1U (p:τ->Bool):∀ l:List τ,l.take (l.takeWhile p).length=l.takeWhile p
 | []=>rfl
 | x::r=>by
  rw [List.takeWhile_cons];cases p x with
  | true=>simp [z1U p r]
  | false=>simp
theorem z1N (p:τ->Bool):∀ l:List τ,l.drop (l.takeWhile p).length=l.dropWhile p
 | []=>rfl
 | x::r=>by
  rw [List.takeWhile_cons,List.dropWhile_cons];cases p x with
  | true=>simp [z1N p r]
  | false=>simp
theorem zbly (p:τ->Bool) (l:List τ):(l.takeWhile p).length<=l.length:=(List.takeWhile_prefix p).length_le
theorem zbaf {W:α->β->Wy α β ρ} {z:ρ} (l:List τ) (p:τ->Bool) (ex:Nat->α) (ey:Nat->β) (res:Nat->ρ)
  (h:∀ i,i<l.length->∀ (H:α->β->Bool×ρ) K D,(W (ex i) (ey i)).ev H K D=bif p (l.getD i default) then H (ex (i+1)) (ey (i+1)) else K (res i))
  (he:∀ (H:α->β->Bool×ρ) K D,(W (ex l.length) (ey l.length)).ev H K D=K (res l.length)):
  ∀ n i,l.length<i+n->i<=l.length->zC W z n (ex i) (ey i)=(true,res (i+((l.drop i).takeWhile p).length))
 | 0,i,h1,h2=>by omega
 | n+1,i,h1,h2=>by
  show (W (ex i) (ey i)).ev (zC W z n) (λr=>(true,r)) (false,z)=_
  by_cases hi:i<l.length
  ·rw [h i hi,zby hi,List.takeWhile_cons];cases hp:p (l.getD i default) with
   | false=>simp
   | true=>
    rw [cond_true,zbaf l p ex ey res h he n (i+1) (by omega) (by omega)]
    simp only [if_true,qf];congr 2; omega
  ·have:i=l.length:=by omega
   subst this;rw [he,zc3 hi]; rfl
theorem zVb {W:α->β->Wy α β ρ} {z:ρ} (l:List τ) (p:τ->Bool) (ex:Nat->α) (ey:Nat->β) (res:Nat->ρ)
  (h:∀ i,i<l.length->∀ (H:α->β->Bool×ρ) K D,(W (ex i) (ey i)).ev H K D=bif p (l.getD i default) then H (ex (i+1)) (ey (i+1)) else K (res i))
  (he:∀ (H:α->β->Bool×ρ) K D,(W (ex l.length) (ey l.length)).ev H K D=K (res l.length)) (n:Nat) (hn:l.length<n):
  zC W z n (ex 0) (ey 0)=(true,res (l.takeWhile p).length):=by
 have:=zbaf (z:=z) l p ex ey res h he n 0 (by omega) (by omega)
 simpa using this
def zV6 (p:τ->Bool) (x:τ) (l:List τ):List τ:=l.takeWhile p++x::l.dropWhile p
theorem z9O (p:τ->Bool) (x y:τ) (r:List τ):zV6 p x (y::r)=bif p y then y::zV6 p x r else x::y::r:=by
 unfold zV6;rw [List.takeWhile_cons,List.dropWhile_cons];cases p y <;>simp
theorem zKo (p:τ->Bool) (x:τ):∀ l:List τ,(zV6 p x l).Perm (x::l)
 | []=>.refl _
 | y::r=>by
  rw [z9O];cases p y
  ·exact .refl _
  ·exact ((zKo p x r).cons y).trans (.swap x y r)
abbrev Srt (key:τ->TT) (l:List τ):Prop:=l.Pairwise λx y=>zbf (key x) (key y)<=0
theorem zbbr (key:τ->TT) (x:τ):∀ l:List τ,Srt key l->Srt key (zV6 (λy=>decide (zbf (key y) (key x)<=0)) x l)
 | [],_=>by simp [zV6]
 | y::r,h=>by
  have h:=qi.1 h;rw [z9O];by_cases hp:zbf (key y) (key x)<=0
  ·rw [decide_eq_true hp];refine qi.2 ⟨λz hz=> ?_,zbbr key x r h.2⟩
   rcases qd.1 ((zKo _ x r).mem_iff.1 hz) with rfl | hz
   ·exact hp
   ·exact h.1 z hz
  ·rw [decide_eq_false hp];have hxy:zbf (key x) (key y)<=0:=by have:=ze6 (key x) (key y); omega
   refine qi.2 ⟨λz hz=> ?_,qi.2 h⟩
   rcases qd.1 hz with rfl | hz
   ·exact hxy
   ·exact zuJ _ _ _ hxy (h.1 z hz)
end
theorem z8I {τ:Type} (l:List τ) (k:Nat):List.take (k - Int.toNat 0) (List.drop (Int.toNat 0) l)=l.take k:=by simp
theorem zF5 {τ:Type} (l:List τ) (k:Nat):List.take ((Int.ofNat l.length).toNat - k) (List.drop k l)=l.drop k:=by
 simp only [Int.ofNat_eq_natCast,Int.toNat_natCast];rw [List.take_of_length_le (by simp)]
theorem zbcN (n:Nat):(n==0)= !decide (0<n):=by cases n <;>simp
def znJ (w:Wd):Bool:=decide (0<w.Ann.length)
def zel (l:yE):yE:=zoa zbP (l.filter znJ)
theorem zPw {d:Nat} {l:yE} (hl:l.length<=1000000) (h:∀ w∈l,zo d w.Ann) (hd:d<=99):SortOK zbP l:=by
 have e:∀ x∈l,∀ y,zbP x y=(true,zbf (z8 x) (z8 y)):=λx hx y=>zcU (h x hx) hd y
 refine ⟨by omega,λx hx y _=>by rw [e x hx],λx hx=> ?_,λx hx y hy z hz h1 h2=> ?_,λx hx y hy z hz h1 h2=> ?_,λx hx y hy h1 h2=> ?_⟩
 ·rw [e x hx,zFP]; omega
 ·rw [e x hx] at h1 ⊢; rw [e y hy] at h2;have h3:=zuJ _ _ _ (show zbf (z8 x) (z8 y)<=0 by simp only at h1; omega) (show zbf (z8 y) (z8 z)<=0 by simp only at h2; omega)
  simp only at h1 h2 ⊢;by_cases e0:zbf (z8 x) (z8 z)=0
  ·have:=zuj _ _ e0;rw [<- this,ze6 (z8 x) (z8 y)] at h2;omega
  ·omega
 ·rw [e x hx] at h1 ⊢; rw [e y hy] at h2;simp only at h1 h2 ⊢;have a1:=ze6 (z8 x) (z8 y);have a2:=ze6 (z8 y) (z8 z);have a3:=ze6 (z8 x) (z8 z);have:=zuJ (z8 z) (z8 y) (z8 x) (by omega) (by omega)
  omega
 ·rw [e x hx] at h1; rw [e y hy] at h2;simp only at h1 h2;have a1:=ze6 (z8 x) (z8 y);exact z6v _ _ (zuj _ _ (by omega))
theorem zbjB {d:Nat} (l:yE) (hl:l.length<=1000000) (h:∀ w∈l,zo d w.Ann) (hd:d<=99) (n:Nat) (hn:l.length<n):zIo n l l.length 0 []=(true,l.filter znJ):=by
 have hreach:zN=70368744177664:=rfl;have hfl:∀ i,(List.filter znJ (l.take i)).length<=1000000:=λi=>Nat.le_trans (List.length_filter_le _ _) (Nat.le_trans (by simp; omega) hl)
 have:=zee (W:=zAJ) (z:=default) l.length (λi=>((),l,(l.length:Int),(i:Int),())) (λi=>((l.take i).filter znJ,())) (λ_=>true) default (l.filter znJ)
  (λi hi H K D=>by
   show (znn l l.length i ((l.take i).filter znJ)).ev H K D=_;unfold znn;have hb2:decide (((List.filter znJ (l.take i)).length+1)*56<=zN)=true:=by have:=hfl i; simp only [qe]; omega
   have hgt:decide (((l.getD i default).Ann.length:Int)>0)=znJ (l.getD i default):=zr9 _ 0;simp only [Wy.ev_i,Wy.ev_k,Wy.ev_h,Wy.ev_bn,Wy.ev_d,tT,hi,zKW (h _ (zp hi)) (by omega:d<=100),hgt,List.length_singleton,hb2]
   rw [zL (by omega),zhu hi,List.filter_append,List.filter_cons]
   cases znJ (l.getD i default) with
   | true=>simp
   | false=>simp)
  (λH K D=>by
   show (znn l l.length l.length ((l.take l.length).filter znJ)).ev H K D=_;unfold znn;simp only [Wy.ev_i,Wy.ev_k,tT,Nat.lt_irrefl,List.take_length]) n hn
 rw [show zeH (λ_=>true) l.length 0=true from zed.2 λ_ _ _=>rfl] at this
 exact this
theorem zbid {d:Nat} (hd:d<=99):OW λw=>zo d w.Ann where
 ends := λx y hx _ => ⟨_, zcU hx hd y⟩
 asym:=λx y hx hy h1 h2=>by
  unfold ltW at h1 h2;rw [zcU hx hd] at h1;rw [zcU hy hd,ze6 (z8 x) (z8 y)] at h2;simp only at h1 h2; omega
 ntr:=λx y z hx hy hz h1 h2 h3=>by
  unfold ltW at h1 h2 h3;rw [zcU hx hd] at h1 h3;rw [zcU hy hd] at h2;simp only at h1 h2 h3;have a1:=ze6 (z8 x) (z8 y);have a2:=ze6 (z8 y) (z8 z);have a3:=ze6 (z8 x) (z8 z);have:=zuJ (z8 z) (z8 y) (z8 x) (by omega) (by omega)
  omega
theorem zbbJ {d:Nat} {l:yE} (h:∀ w∈l,zo d w.Ann) (hd:d<=99) (h20:l.length<40):zbY l=(true,zoa zbP l):=by
 obtain ⟨Z,k1,k2,k3⟩:=zbi6 (zbid hd) h h20;rw [k1,(zPw (d:=d) (by omega) h hd).unique k2 k3]
theorem zbhE {d:Nat} (l:yE) (hl:l.length<=1000000) (h:∀ w∈l,zo d w.Ann) (hd:d<=99) (h20:(l.filter znJ).length<40):zsi l=(true,zel l):=by
 unfold zsi zKv zel;have:=zbjB l hl h hd (l.length+(Int.ofNat l.length).toNat +Int.toNat (0:Int)+(0:Nat)+(1:Nat)) (by omega)
 rw [show Int.ofNat l.length=(l.length:Int) from rfl] at *
 rw [Wy.fin_bn,this];simp only [Wy.fin_bn,Wy.fin_k,cond_true,zbbJ (λw hw=>h w (List.mem_filter.1 hw).1) hd h20]
def zBv (w:Wd) (out:yE):yE:=bif znJ w then zV6 (λy=>decide (zbf (z8 y) (z8 w)<=0)) w out else out
theorem zbin {d:Nat} (l:yE) (i:Nat) (hi:i<l.length) (hl:l.length<=1000000) (out:yE) (ho:out.length<=1000000) (h:∀ w∈out,zo d w.Ann) (hd:d<=99) (n:Nat) (hn:out.length<n):
  zTc n l i 0 out=(true,(l,(i:Int),(((out.takeWhile λy=>decide (zbf (z8 y) (z8 (l.getD i default))<=0)).length:Nat):Int),out)):=by
 exact zVb (W:=zTI) (z:=default) out (λy=>decide (zbf (z8 y) (z8 (l.getD i default))<=0)) (λk=>(l,(),(i:Int),(k:Int),())) (λ_=>(out,())) (λk=>(l,(i:Int),(k:Int),out))
  (λk hk H K D=>by
   show (zwU l i k out).ev H K D=_;unfold zwU;have e1:(decide ((k:Int)<=((k+1:Nat):Int))&&decide (((k+1:Nat):Int)<=Int.ofNat out.length))=true:=by simp; try omega
   have e2:(decide ((i:Int)<=((i+1:Nat):Int))&&decide (((i+1:Nat):Int)<=Int.ofNat l.length))=true:=by simp; try omega
   have e3:decide ((k:Int)<Int.ofNat out.length)=true:=by simp [hk]
   simp only [Wy.ev_i,Wy.ev_k,Wy.ev_h,Wy.ev_bn,Wy.ev_d,zL (show k<4611686018427387904 by omega),zL (show i<4611686018427387904 by omega),e1,e2,e3,zfP,Bool.true_and,cond_true,Int.toNat_natCast,show k+1 - k=1 by omega,show i+1 - i=1 by omega,zbbc _ _ hi,zbbc _ _ hk]
   rw [zFS (d:=d) (by simp) (λw hw=>by
    rw [qh] at hw; subst hw; exact h _ (zp hk)) hd,znU,znU]
   simp only [List.map,zbiR,cond_true])
  (λH K D=>by
   show (zwU l i out.length out).ev H K D=_;unfold zwU;have e3:decide ((out.length:Int)<Int.ofNat out.length)=false:=by simp
   simp only [Wy.ev_i,Wy.ev_k,e3,cond_false]) n hn
theorem zbgs (w:Wd) (out:yE):(zBv w out).length<=out.length+1:=by
 unfold zBv;cases znJ w with
 | false=>simp
 | true=>simp only [cond_true]; rw [(zKo _ w out).length_eq]; simp
theorem zbf5 {w y:Wd} {out:yE} (h:y∈zBv w out):y=w\/y∈out:=by
 unfold zBv at h;cases hb:znJ w with
 | false=>rw [hb] at h; exact .inr h
 | true=>rw [hb] at h; exact qd.1 ((zKo _ w out).mem_iff.1 h)
theorem zbhI {d:Nat} (l:yE) (hl:l.length<=1000000) (h:∀ w∈l,zo d w.Ann) (hd:d<=99) (n:Nat) (hn:l.length<n):zTZ n l 0 []=(true,l.foldl (λout w=>zBv w out) []):=by
 have hreach:zN=70368744177664:=rfl
 have:=zdh (W:=zTs) (z:=default) (l:=l) (λi (out:yE)=>(l,(),(i:Int),())) (λ_ out=>(out,())) (λw out=>.inl (zBv w out)) (λout=>out) (λi out=>out.length<=i/\∀ w∈out,zo d w.Ann)
  (λi out hi hI=>.inl ⟨_,rfl,⟨by have:=zbgs (l.getD i default) out; omega,λw hw=>by
    rcases zbf5 hw with rfl | hw
    ·exact h _ (zp hi)
    ·exact hI.2 w hw⟩,λH K D=>by
   show (zw6 l i out).ev H K D=_;unfold zw6;have e0:((l.getD i default).Ann.length==0)= !znJ (l.getD i default):=zbcN _;have e3:decide ((i:Int)<Int.ofNat l.length)=true:=by simp [hi]
   simp only [Wy.ev_i,Wy.ev_k,Wy.ev_h,Wy.ev_bn,Wy.ev_d,e3,zfP,Bool.and_self,cond_true,Int.toNat_natCast,show (Int.ofNat (l.getD i default).Ann.length==(0:Int))=((l.getD i default).Ann.length==0) from zzr _ 0,e0]
   rw [zbin l i hi hl out (by omega) hI.2 hd _ (by omega)]
   simp only [cond_true,z8I,zF5,List.nil_append,Int.toNat_natCast,e3,zfP,Bool.and_self,Int.le_refl,decide_true,Bool.true_and,Bool.and_true];have q1:=zbly (λy=>decide (zbf (z8 y) (z8 (l.getD i default))<=0)) out
   have q2:decide (((out.takeWhile λy=>decide (zbf (z8 y) (z8 (l.getD i default))<=0)).length:Int)<=Int.ofNat out.length)=true:=by simp only [qe,Int.ofNat_eq_natCast]; omega
   have hb1:decide ((0+(out.take (out.takeWhile λy=>decide (zbf (z8 y) (z8 (l.getD i default))<=0)).length).length)*56<=zN)=true:=by simp only [qe,List.length_take]; omega
   have hb2:decide (((out.take (out.takeWhile λy=>decide (zbf (z8 y) (z8 (l.getD i default))<=0)).length).length+[l.getD i default].length)*56<=zN)=true:=by simp only [qe,List.length_take,List.length_singleton]; omega
   have hb3:decide (((out.take (out.takeWhile λy=>decide (zbf (z8 y) (z8 (l.getD i default))<=0)).length++[l.getD i default]).length+(out.drop (out.takeWhile λy=>decide (zbf (z8 y) (z8 (l.getD i default))<=0)).length).length)*56<=zN)=true:=by simp only [qe,qg,List.length_take,List.length_singleton,List.length_drop]; omega
   simp only [q2,hb1,hb2,hb3,cond_true];rw [zL (by omega),z1U,z1N]
   unfold zBv zV6;cases znJ (l.getD i default) <;>simp⟩)
  (λout hI H K D=>by
   show (zw6 l l.length out).ev H K D=_;unfold zw6;have e3:decide ((l.length:Int)<Int.ofNat l.length)=false:=by simp
   simp only [Wy.ev_i,Wy.ev_k,e3,cond_false]) n 0 [] (by omega) (by omega) ⟨by simp,λw hw=>by cases hw⟩
 rw [List.drop_zero,zdi] at this;exact this
theorem z7S:∀ (l out:yE),(l.foldl (λout w=>zBv w out) out).Perm (l.filter znJ++out)/\(Srt z8 out->Srt z8 (l.foldl (λout w=>zBv w out) out))
 | [],out=>⟨.refl _,λh=>h⟩
 | w::r,out=>by
  obtain ⟨h1,h2⟩:=z7S r (zBv w out);rw [List.foldl_cons,List.filter_cons];cases hb:znJ w with
  | false=>
   have e:zBv w out=out:=by unfold zBv; rw [hb]; rfl
   rw [e] at h1 h2 ⊢;exact ⟨by simpa using h1,h2⟩
  | true=>
   have e:zBv w out=zV6 (λy=>decide (zbf (z8 y) (z8 w)<=0)) w out:=by unfold zBv; rw [hb]; rfl
   rw [e] at h1 h2 ⊢;refine ⟨?_,λh=>h2 (zbbr z8 w out h)⟩
   simp only [if_true,List.cons_append];exact h1.trans (((zKo _ w out).append_left _).trans List.perm_middle)
theorem zbgb {d:Nat} (l:yE) (hl:l.length<=1000000) (h:∀ w∈l,zo d w.Ann) (hd:d<=99):zSh l=(true,zel l):=by
 unfold zSh zXc;rw [Wy.fin_bn,zbhI l hl h hd _ (by omega)]
 simp only [cond_true,Wy.fin_k];congr 1;obtain ⟨h1,h2⟩:=z7S l [];rw [List.append_nil] at h1;have hm:∀ w∈l.filter znJ,zo d w.Ann:=λw hw=>h w (List.mem_filter.1 hw).1
 refine (zPw (d:=d) (Nat.le_trans (List.length_filter_le _ _) hl) hm hd).unique h1 ?_;refine (h2 .nil).imp_of_mem λ{x y} hx hy hxy=> ?_
 rw [zcU (hm y (h1.mem_iff.1 hy)) hd,ze6 (z8 x) (z8 y)];simp only; omega
def zSL (op sign:Int):Bool:=bif op==5 then sign==0 else bif op==6 then sign != 0 else bif op==7 then decide (sign<0) else bif op==8 then decide (sign<=0) else bif op==9 then decide (sign>0) else decide (sign≥0)
theorem zbhh (op sign:Int):zrL op sign=(true,zSL op sign):=by
 unfold zrL zJZ zSL;simp only [Wy.fin_i,Wy.fin_k];cases op==5 <;>cases op==6 <;>cases op==7 <;>cases op==8 <;>cases op==9 <;>rfl
theorem zbfu {op sign:Int} (h1:5<=op) (h2:op<=10):zMr op sign=(true,zSL op sign):=by
 unfold zMr zRD zSL;simp only [Wy.fin_i,Wy.fin_k,zhL];by_cases a1:op=5
 ·simp [a1]
 by_cases a2:op=6
 ·simp [a2]
 by_cases a3:op=7
 ·simp [a3]
 by_cases a4:op=8
 ·simp [a4]
 by_cases a5:op=9
 ·simp [a5]
 have a6:op=10:=by omega
 simp [a6]
def zRM (fn:Int) (l:yE) (op:Int) (b:Value):At:=⟨4,⟨0,0⟩,[],fn,l,op,b⟩
def zy9 (fn:Int) (items:yE) (op:Int) (b:Value):yC×Int:=
 bif !(zD9 fn items op b&&items.all λw=>zV w.Ann) then ([],1) else
 bif decide (0<(zel items).length) then zoK (zcy (zRM fn (zel items) op b)) else
 bif fn==0&&zSL op (zeD 0 b.Int) then ([⟨1,[]⟩],0) else ([],0)
theorem zNt {l:yE} {w:Wd} (h:w∈zel l):w∈l/\w.Ann≠[]:=by
 have:=(znW _ _).mem_iff.1 h;obtain ⟨h1,h2⟩:=List.mem_filter.1 this;refine ⟨h1,λe=> ?_⟩
 rw [znJ,e] at h2; simp at h2
theorem z67 (l:yE):(zel l).length=(l.filter znJ).length:=(znW _ _).length_eq
theorem z0U {B:Nat}:∀ l:yE,(∀ w∈l,zP w.Ann<=B)->zdy l<=l.length*(B+1)
 | [],_=>by rw [zgk]; simp
 | w::r,h=>by
  rw [zi2,qf];have h1:=h w (by simp)
  have h2:=z0U r λw hw=>h w (by simp [hw])
  rw [Nat.add_mul]; omega
theorem zOl {fn:Int} {l:yE} {op:Int} {b:Value} (hl:l.length<=1000000) (hf:zD9 fn l op b=true) (hv:(l.all λw=>zV w.Ann)=true):zo 10 (zcy (zRM fn (zel l) op b))/\zP (zcy (zRM fn (zel l) op b))<=4611686018427387904:=by
 obtain ⟨_,hb,hit⟩:=zvb hf;have hvv:∀ w∈l,zV w.Ann=true:=λw hw=>List.all_eq_true.1 hv w hw
 have hlen:(zel l).length<=1000000:=by rw [z67]; exact Nat.le_trans (List.length_filter_le _ _) hl
 constructor
 ·refine zRE ⟨⟨by simp [zRM],hlen,by have:=zyv hb; simp only [zRM]; omega⟩,λy hy=>(by cases hy),λw hw=> ?_⟩
  have hm:=(zNt hw).1;exact ⟨by have:=zyv (hit w hm).1; omega,(ze1 (hvv w hm)).1⟩
 ·rw [z4V,zhW];have h1:zdy (zel l)<=(zel l).length*(4096+1):=z0U _ λw hw=>(ze1 (hvv w (zNt hw).1)).2.1
  show 2+(zfN []+zdy (zel l))<=_;rw [zhn];have:=Nat.mul_le_mul hlen (Nat.le_refl (4096+1));omega
theorem zbiV {d:Nat} (l:yE) (hl:l.length<=1000000) (h:∀ w∈l,zo d w.Ann/\zP w.Ann<=4611686018427387904) (hd:d<=99):zcl l=(true, !l.all λw=>zV w.Ann):=by
 unfold zcl zhI;have:zdF l=IG (λ(_:Unit) x=>zoT x) (l.length+(Int.ofNat l.length).toNat +Int.toNat (0:Int)+(1:Nat)) () l:=rfl
 rw [zlO (P:=λw=> !zV w.Ann) (this.trans (zNP _ _ _ _ _ (by omega) (λx hx=>by
  unfold zoT zGR;rw [Wy.fin_bn,zbad (h x hx).1 (by omega) (h x hx).2]; rfl) (by omega)))]
 simp [List.all_eq_not_any_not]
theorem zbjc {d:Nat} (fn:Int) (l:yE) (op:Int) (b:Value) (hl:l.length<=1000000) (h:∀ w∈l,zo d w.Ann/\zP w.Ann<=4611686018427387904) (hd:d<=99) (h20:(l.filter znJ).length<40):
  zpk fn l op b=(true,zy9 fn l op b):=by
 unfold zpk zMw zy9;have hI:=zbhE l hl (λw hw=>(h w hw).1) hd h20
 have hgt:decide (Int.ofNat (zel l).length>0)=decide (0<(zel l).length):=zr9 _ 0;simp only [Wy.fin_bn,Wy.fin_i,Wy.fin_k,z6Y fn l op b hl,zbiV l hl h hd,hI,cond_true,hgt];cases hf:zD9 fn l op b with
 | false=>rfl
 | true=>
  cases hv:l.all λw=>zV w.Ann with
  | false=>rfl
  | true=>
   simp only [Bool.not_true,cond_false,Bool.and_self];rw [zK7];have hx:(⟨4,⟨0,0⟩,[],fn,zel l,op,b⟩:At)=zRM fn (zel l) op b:=rfl;rw [hx,zDu (zOl hl hf hv).1 (by omega) (zOl hl hf hv).2]
   cases decide (0<(zel l).length) with
   | true=>rfl
   | false=>
    simp only [cond_false,zzv,zbhh,cond_true];cases fn==0 with
    | false=>rfl
    | true=>
     cases zSL op (zeD 0 b.Int) <;>rfl
theorem zbcn {d:Nat} (fn:Int) (l:yE) (op:Int) (b:Value) (hl:l.length<=1000000) (h:∀ w∈l,zo d w.Ann/\zP w.Ann<=4611686018427387904) (hd:d<=99):
  zHq fn l op b=(true,zy9 fn l op b):=by
 unfold zHq zYL zy9;have hI:=zbgb l hl (λw hw=>(h w hw).1) hd
 have hgt:decide (0<(zel l).length)= !((zel l).length==0):=by rw [zbcN,Bool.not_not]
 have hL:zXb (fn.toNat +l.length+op.toNat +Int.toNat (0:Int)+(1:Nat)) fn l op (0:Int) b=(true,bif l.all λw=>zV w.Ann then .inr (fn,l,op,b) else .inl 1):=by
  have:=zee (W:=zWV) (z:=.inl default) l.length (λi=>(fn,l,op,(),(i:Int),())) (λ_=>(b,())) (λi=>(λw:Wd=>zV w.Ann) (l.getD i default)) (.inl 1) (.inr (fn,l,op,b))
   (λi hi H K D=>by
    show (zzG fn l op i b).ev H K D=_;unfold zzG;have hx:=h _ (zp hi);simp only [Wy.ev_i,Wy.ev_k,Wy.ev_h,Wy.ev_bn,Wy.ev_d,tT,hi,z68 hx.1 (by omega) hx.2]
    rw [zL (by omega)]
    cases zV (l.getD i default).Ann <;>rfl)
   (λH K D=>by
    show (zzG fn l op l.length b).ev H K D=_;unfold zzG;simp only [Wy.ev_i,Wy.ev_k,tT,Nat.lt_irrefl]) (fn.toNat +l.length+op.toNat +Int.toNat (0:Int)+(1:Nat)) (by omega)
  rw [zB2 (λw:Wd=>zV w.Ann)] at this
  exact this
 simp only [Wy.fin_bn,Wy.fin_i,Wy.fin_k,zbcR fn l op b hl,hL,cond_true,hgt];cases hf:zD9 fn l op b with
 | false=>rfl
 | true=>
  cases hv:l.all λw=>zV w.Ann with
  | false=>rfl
  | true=>
   simp only [Bool.not_true,cond_false,cond_true,Bool.and_self,isL,getR,hI];rw [show (Int.ofNat (zel l).length==(0:Int))=((zel l).length==0) from zzr _ 0,zF3]
   have hx:(⟨4,⟨0,0⟩,[],fn,zel l,op,b⟩:At)=zRM fn (zel l) op b:=rfl;rw [hx,zCq (zOl hl hf hv).1 (by omega) (zOl hl hf hv).2]
   cases ((zel l).length==0) with
   | false=>rfl
   | true=>
    obtain ⟨⟨_,_,o1,o2⟩,_⟩:=zvb hf;simp only [cond_false,Bool.not_true,zpl,zbfu o1 o2,cond_true];cases fn==0 with
    | false=>rfl
    | true=>
     cases zSL op (zeD 0 b.Int) <;>rfl
def zRV (a:yC) (b:yC):Wy0 (yC×Int):=.bn (zfa a) λr3=>.i (!r3) (.k ([],1)) (.bn (zfa b) λr2=>.i (!r2) (.k ([],1)) (.bn (zpF a b) λr1=>.bn (zon r1) λr0=>.k (r0.1,r0.2)))
def zLk (a:yC) (b:yC):=(zRV a b).fin default
def zRT (a:yC) (b:yC):Wy0 (yC×Int):=.bn (zfa a) λr3=>.i (!r3) (.k ([],1)) (.bn (zfa b) λr2=>.i (!r2) (.k ([],1)) (.bn (zGl a b) λr1=>.bn (zon r1) λr0=>.k (r0.1,r0.2)))
def zKY (a:yC) (b:yC):=(zRT a b).fin default
def zbeI (t:Term):yC->yC
 | []=>[t]
 | x::r=>if cT x t=0 then ⟨zDs x.Cf t.Cf,t.Fs⟩::r else t::x::r
def zbfv (f:Fc):yD->yD
 | []=>[f]
 | x::r=>if cF x f=0 then (if f.At.Kind<3 then ⟨f.At,x.Exp+f.Exp⟩ else f)::r else f::x::r
theorem zbjO {t:Term} {l:yC} {k:Nat} (hk:k<l.length):zbeI t (l.drop k)=if cT (l.getD k default) t=0 then ⟨zDs (l.getD k default).Cf t.Cf,t.Fs⟩::l.drop (k+1) else t::l.drop k:=by
 rw [zby hk]; rfl
theorem zbj8 {f:Fc} {l:yD} {k:Nat} (hk:k<l.length):zbfv f (l.drop k)=if cF (l.getD k default) f=0 then (if f.At.Kind<3 then ⟨f.At,(l.getD k default).Exp+f.Exp⟩ else f)::l.drop (k+1) else f::l.drop k:=by
 rw [zby hk]; rfl
theorem zbeu (t:Term):∀ l:yC,zjX t l=l.takeWhile (λx=>decide (cT x t<0))++zbeI t (l.dropWhile (λx=>decide (cT x t<0)))
 | []=>rfl
 | x::r=>by
  rw [List.takeWhile_cons,List.dropWhile_cons];unfold zjX;by_cases h:cT x t<0
  ·simp only [h,if_true,decide_true,List.cons_append];rw [zbeu t r]
  ·simp only [h,if_false,decide_false,Bool.false_eq_true,List.nil_append]; rfl
theorem zbd5 (f:Fc):∀ l:yD,zMm f l=l.takeWhile (λx=>decide (cF x f<0))++zbfv f (l.dropWhile (λx=>decide (cF x f<0)))
 | []=>rfl
 | x::r=>by
  rw [List.takeWhile_cons,List.dropWhile_cons];unfold zMm;by_cases h:cF x f<0
  ·simp only [h,if_true,decide_true,List.cons_append];rw [zbd5 f r]
  ·simp only [h,if_false,decide_false,Bool.false_eq_true,List.nil_append]; rfl
theorem zbeA {a b:Int} (ha:0<=a/\a<=1152921504606846976) (hb:0<=b/\b<=1152921504606846976):IntKind.i64.wrap (a+b)=a+b:=zcd (by omega) (by omega)
theorem zbgr {τ:Type} (l:List τ) (p:τ->Bool):(l.takeWhile p).length<=l.length:=(List.takeWhile_prefix p).length_le
theorem zbkk (z:Int):(z==0)=decide (z=0):=zhL z 0
theorem zbeE {d:Nat} (l:yC) (t:Term) (hl:l.length<=1000000) (h:∀ x∈l,zcs (zo d) x.Fs) (hd:d<=99) (hc:∀ x∈l,cOK x) (ht:cOK t):zFW l t=(true,zjX t l):=by
 have hreach:zN=70368744177664:=rfl;unfold zFW z3G
 have hL:=zVb (W:=zPd) (z:=default) l (λx=>decide (cT x t<0)) (λk=>(l,(),(k:Int),())) (λ_=>(t,())) (λk=>(l,(k:Int),t))
  (λk hk H K D=>by
   show (zCh l k t).ev H K D=_;unfold zCh;simp only [Wy.ev_i,Wy.ev_k,Wy.ev_h,Wy.ev_bn,Wy.ev_d,tT,hk,zt0 (h _ (zp hk)) hd];rw [zL (by omega)]; rfl)
  (λH K D=>by
   show (zCh l l.length t).ev H K D=_;unfold zCh;simp only [Wy.ev_i,Wy.ev_k,tT,Nat.lt_irrefl]) (l.length+Int.toNat (0:Int)+t.Fs.length+(1:Nat)) (by omega)
 have hL:zZ5 (l.length+Int.toNat (0:Int)+t.Fs.length+(1:Nat)) l 0 t=_:=hL;rw [hL,z1E,zbeu];have q1:=zbgr l (λx=>decide (cT x t<0))
 have q2:=z1U (λx=>decide (cT x t<0)) l
 have q3:=z1N (λx=>decide (cT x t<0)) l
 generalize (l.takeWhile λx=>decide (cT x t<0)).length=k at q1 q2 q3 ⊢
 rw [<- q2, <- q3];have g1:(decide ((0:Int)<=(0:Int))&&decide ((0:Int)<=(k:Int))&&decide ((k:Int)<=Int.ofNat l.length))=true:=by simp only [qc,qe,Int.ofNat_eq_natCast]; omega
 have g2:decide ((0+(l.take k).length)*32<=zN)=true:=by simp only [qe,List.length_take]; omega
 have g4:∀ m:Nat,decide (((l.take k).length+[(⟨0,[]⟩:Term)].length)*32<=zN)=true:=λm=>by simp only [qe,List.length_take,List.length_singleton]; omega
 simp only [Wy.fin_i,Wy.fin_k,Wy.fin_bn,List.nil_append,Int.toNat_natCast,z8I,zF5,g1,g2,cond_true];by_cases hk:k<l.length
 ·have g3:decide ((k:Int)<Int.ofNat l.length)=true:=by simp [hk]
  have g5:(decide ((0:Int)<=(k:Int))&&decide ((k:Int)<Int.ofNat l.length))=true:=by rw [g3]; simp
  have hm:=zp hk;simp only [g3,zfP,Bool.and_self,cond_true,zt0 (h _ hm) hd];rw [zbkk,zbjO hk];have gw:IntKind.i64.wrap ((k:Int)+1)=((k+1:Nat):Int):=zL (by omega)
  have gp:(zzm (l.getD k default).Cf t.Cf).2=zDs (l.getD k default).Cf t.Cf:=by
   unfold zzm z1d zDs;rw [Wy.fin_k,zbeA ⟨by have:=(hc _ hm).1; omega,(hc _ hm).2⟩ ⟨by have:=ht.1; omega,ht.2⟩]
  have gk:(decide ((0:Int)<=(k:Int))&&decide ((k:Int)<=Int.ofNat l.length)&&decide (Int.ofNat l.length<=Int.ofNat l.length))=true:=by simp only [qc,qe,Int.ofNat_eq_natCast]; omega
  have gk':decide ((k:Int)<=Int.ofNat l.length)=true:=by simp only [qe,Int.ofNat_eq_natCast]; omega
  have gk1':decide (((k+1:Nat):Int)<=Int.ofNat l.length)=true:=by simp only [qe,Int.ofNat_eq_natCast]; omega
  have gk1:(decide ((0:Int)<=((k+1:Nat):Int))&&decide (((k+1:Nat):Int)<=Int.ofNat l.length)&&decide (Int.ofNat l.length<=Int.ofNat l.length))=true:=by simp only [qc,qe,Int.ofNat_eq_natCast]; omega
  have gb:∀ x:Term,decide (((l.take k).length+[x].length)*32<=zN)=true:=λx=>by simp only [qe,List.length_take,List.length_singleton]; omega
  have gc:∀ (x:Term) (m:Nat),decide (((l.take k++[x]).length+(l.drop m).length)*32<=zN)=true:=λx m=>by simp only [qe,List.length_take,List.length_drop,qg,List.length_singleton]; omega
  by_cases hz:cT (l.getD k default) t=0
  ·have hz':zbO (zbE (l.getD k default).Fs) (zbE t.Fs)=0:=hz;simp only [hz,hz',if_true,decide_true,cond_true,gw,gp,zfP,Bool.true_and,gk1',Int.le_refl,decide_true,cond_true,Bool.and_self,gb,gc,Int.toNat_natCast,zF5,List.append_assoc,List.singleton_append]
  ·have hz':¬ zbO (zbE (l.getD k default).Fs) (zbE t.Fs)=0:=hz;simp only [hz,hz',if_false,decide_false,cond_false,cond_true,zfP,Bool.true_and,gk',Int.le_refl,decide_true,cond_true,Bool.and_self,gb,gc,List.append_assoc,List.singleton_append]
 ·have hk':k=l.length:=by omega
  have g3:decide ((k:Int)<Int.ofNat l.length)=false:=by simp [hk]
  have gk:(decide ((0:Int)<=(k:Int))&&decide ((k:Int)<=Int.ofNat l.length)&&decide (Int.ofNat l.length<=Int.ofNat l.length))=true:=by simp only [qc,qe,Int.ofNat_eq_natCast]; omega
  have gb:∀ x:Term,decide (((l.take k).length+[x].length)*32<=zN)=true:=λx=>by simp only [qe,List.length_take,List.length_singleton]; omega
  have gc:∀ (x:Term) (m:Nat),decide (((l.take k++[x]).length+(l.drop m).length)*32<=zN)=true:=λx m=>by simp only [qe,List.length_take,List.length_drop,qg,List.length_singleton]; omega
  have gk':decide ((k:Int)<=Int.ofNat l.length)=true:=by simp only [qe,Int.ofNat_eq_natCast]; omega
  simp only [g3,zfP,Bool.true_and,gk',Int.le_refl,decide_true,Bool.and_self,gb,gc,cond_true,cond_false];rw [zc3 hk];simp [zbeI,zbfv]
theorem zbjs {d:Nat} (l:yD) (f:Fc) (hl:l.length<=1000000) (h:∀ x∈l,zdd (zo d) x.At) (hd:d<=99) (hc:∀ x∈l,0<=x.Exp/\x.Exp<=1000000) (ht:0<=f.Exp/\f.Exp<=1000000):zCo l f=(true,zMm f l):=by
 have hreach:zN=70368744177664:=rfl;unfold zCo zUx
 have hL:=zVb (W:=zHv) (z:=default) l (λx=>decide (cF x f<0)) (λk=>(l,(),(k:Int),())) (λ_=>(f,())) (λk=>(l,(k:Int),f))
  (λk hk H K D=>by
   show (zuZ l k f).ev H K D=_;unfold zuZ;simp only [At.eta,Wy.ev_i,Wy.ev_k,Wy.ev_h,Wy.ev_bn,Wy.ev_d,tT,hk,zqp (h _ (zp hk)) hd];rw [zL (by omega)]; rfl)
  (λH K D=>by
   show (zuZ l l.length f).ev H K D=_;unfold zuZ;simp only [Wy.ev_i,Wy.ev_k,tT,Nat.lt_irrefl]) (l.length+Int.toNat (0:Int)+f.At.Ag.length+f.At.Items.length+(1:Nat)) (by omega)
 have hL:zRo (l.length+Int.toNat (0:Int)+f.At.Ag.length+f.At.Items.length+(1:Nat)) l 0 f=_:=hL;rw [At.eta,show (FO.mk f.At f.Exp:Fc)=f from rfl,hL,z1E,zbd5]
 have q1:=zbgr l (λx=>decide (cF x f<0))
 have q2:=z1U (λx=>decide (cF x f<0)) l
 have q3:=z1N (λx=>decide (cF x f<0)) l
 generalize (l.takeWhile λx=>decide (cF x f<0)).length=k at q1 q2 q3 ⊢
 rw [<- q2, <- q3];have g1:(decide ((0:Int)<=(0:Int))&&decide ((0:Int)<=(k:Int))&&decide ((k:Int)<=Int.ofNat l.length))=true:=by simp only [qc,qe,Int.ofNat_eq_natCast]; omega
 have g2:decide ((0+(l.take k).length)*128<=zN)=true:=by simp only [qe,List.length_take]; omega
 have gb:∀ x:Fc,decide (((l.take k).length+[x].length)*128<=zN)=true:=λx=>by simp only [qe,List.length_take,List.length_singleton]; omega
 have gc:∀ (x:Fc) (m:Nat),decide (((l.take k++[x]).length+(l.drop m).length)*128<=zN)=true:=λx m=>by simp only [qe,List.length_take,List.length_drop,qg,List.length_singleton]; omega
 have gk:(decide ((0:Int)<=(k:Int))&&decide ((k:Int)<=Int.ofNat l.length)&&decide (Int.ofNat l.length<=Int.ofNat l.length))=true:=by simp only [qc,qe,Int.ofNat_eq_natCast]; omega
 have ef:(FO.mk f.At f.Exp:Fc)=f:=rfl;simp only [At.eta,ef,Wy.fin_i,Wy.fin_k,Wy.fin_bn,List.nil_append,Int.toNat_natCast,z8I,zF5,g1,g2,cond_true];by_cases hk:k<l.length
 ·have g3:decide ((k:Int)<Int.ofNat l.length)=true:=by simp [hk]
  have g5:(decide ((0:Int)<=(k:Int))&&decide ((k:Int)<Int.ofNat l.length))=true:=by rw [g3]; simp
  have hm:=zp hk;simp only [g3,zfP,Bool.and_self,cond_true,zqp (h _ hm) hd];rw [zbkk,zbj8 hk];have gw:IntKind.i64.wrap ((k:Int)+1)=((k+1:Nat):Int):=zL (by omega)
  have gp:IntKind.i64.wrap ((l.getD k default).Exp+f.Exp)=(l.getD k default).Exp+f.Exp:=by have:=hc _ hm; exact zcd (by omega) (by omega)
  have gk':decide ((k:Int)<=Int.ofNat l.length)=true:=by simp only [qe,Int.ofNat_eq_natCast]; omega
  have gk1':decide (((k+1:Nat):Int)<=Int.ofNat l.length)=true:=by simp only [qe,Int.ofNat_eq_natCast]; omega
  have gk1:(decide ((0:Int)<=((k+1:Nat):Int))&&decide (((k+1:Nat):Int)<=Int.ofNat l.length)&&decide (Int.ofNat l.length<=Int.ofNat l.length))=true:=by simp only [qc,qe,Int.ofNat_eq_natCast]; omega
  by_cases hz:cF (l.getD k default) f=0
  ·have hz':zbf (zdw (l.getD k default).At) (zdw f.At)=0:=hz;by_cases hk3:f.At.Kind<3
   ·simp only [hz,hz',hk3,if_true,decide_true,cond_true,gw,gp,zfP,Bool.true_and,gk1',Int.le_refl,decide_true,cond_true,Bool.and_self,gb,gc,Int.toNat_natCast,zF5,List.append_assoc,List.singleton_append]
   ·simp only [hz,hz',hk3,if_true,if_false,decide_true,decide_false,cond_true,cond_false,gw,gp,zfP,Bool.true_and,gk1',Int.le_refl,decide_true,cond_true,Bool.and_self,gb,gc,Int.toNat_natCast,zF5,List.append_assoc,List.singleton_append]
  ·have hz':¬ zbf (zdw (l.getD k default).At) (zdw f.At)=0:=hz;simp only [hz,hz',if_false,decide_false,cond_false,cond_true,zfP,Bool.true_and,gk',Int.le_refl,decide_true,cond_true,Bool.and_self,gb,gc,List.append_assoc,List.singleton_append]
 ·have g3:decide ((k:Int)<Int.ofNat l.length)=false:=by simp [hk]
  have gk':decide ((k:Int)<=Int.ofNat l.length)=true:=by simp only [qe,Int.ofNat_eq_natCast]; omega
  simp only [g3,zfP,Bool.true_and,gk',Int.le_refl,decide_true,Bool.and_self,gb,gc,cond_true,cond_false];rw [zc3 hk];simp [zbeI,zbfv]
theorem zbkd (n:Nat) (h:n<=4000000):zer (n:Int)=(true,[]):=by
 have hreach:zN=70368744177664:=rfl;unfold zer znS;have e0:IntKind.i64.wrap ((0:Int) - 0)=0:=rfl;have e1:IntKind.i64.wrap ((n:Int) - 0)=(n:Int):=by rw [zcd (by omega) (by omega)]; omega
 have e2:decide ((n:Int)<0)=false:=decide_eq_false (by omega)
 rw [Wy.fin_i,e2,cond_false,e0,e1];by_cases hn:(n:Int)>0
 ·have e3:(true&&(decide ((n:Int)*Int.ofNat (32:Nat)<=Int.ofNat zN)&&(decide ((n:Int)<=Int.ofNat zN)&& !Nat.beq (2:Nat) (0:Nat))))=true:=by
   simp only [qc,qe,Int.ofNat_eq_natCast];exact ⟨trivial,by rw [hreach]; omega,by rw [hreach]; omega,rfl⟩
  rw [Wy.fin_i,decide_eq_true hn,cond_true,Wy.fin_i,e3,cond_true,Wy.fin_k];simp
 ·rw [Wy.fin_i,decide_eq_false hn]; rfl
theorem zbhF (ls:yA) (hn:ls.length<=10) (h:∀ l∈ls,l.length<=300000):zdX ls=(true,ls.flatten):=by
 have hreach:zN=70368744177664:=rfl;unfold zdX zmG;have e:∀ l:yC,l∈ls->l.length<=300000:=h
 have h1:=zdh (W:=zg5) (z:=default) (l:=ls) (λi (n:Nat)=>(ls,(n:Int),ls,(ls.length:Int),(i:Int),())) (λ_ _=>()) (λy n=>.inl (n+y.length)) (λn=>(ls,(n:Int))) (λi n=>n<=i*300000)
  (λi n hi hI=>.inl ⟨_,rfl,by have:=e _ (zp hi); omega,λH K D=>by
   show (zdk ls n ls ls.length i).ev H K D=_;unfold zdk;have hle:=e _ (zp hi);have hw:IntKind.i64.wrap ((n:Int)+((ls.getD i default).length:Int))=((n+(ls.getD i default).length:Nat):Int):=zpC (by omega)
   simp only [Wy.ev_i,Wy.ev_k,Wy.ev_h,Wy.ev_bn,Wy.ev_d,tT,hi,hw];have h0:decide (((n+(ls.getD i default).length:Nat):Int)<0)=false:=decide_eq_false (by omega)
   rw [h0,zL (by omega)]; rfl⟩)
  (λn hI H K D=>by
   show (zdk ls n ls ls.length ls.length).ev H K D=_;unfold zdk;simp only [Wy.ev_i,Wy.ev_k,tT,Nat.lt_irrefl]) (ls.length+Int.toNat (0:Int)+ls.length+(Int.ofNat ls.length).toNat +Int.toNat (0:Int)+(1:Nat)) 0 0 (by omega) (by omega) (by omega)
 rw [List.drop_zero,zdi] at h1;have h1:zl2 (ls.length+Int.toNat (0:Int)+ls.length+(Int.ofNat ls.length).toNat +Int.toNat (0:Int)+(1:Nat)) ls 0 ls (Int.ofNat ls.length) 0=_:=h1
 have hb:∀ (r:yA) (n:Nat),(∀ l∈r,l.length<=300000)->r.foldl (λn (y:yC)=>n+y.length) n<=n+r.length*300000:=λr=>by
  induction r with
  | nil=>intro n _; simp
  | cons y r ih=>
   intro n hr;have q1:=ih (n+y.length) λl hl=>hr l (by simp [hl])
   have q2:=hr y (by simp)
   rw [List.foldl_cons,qf]; omega
 have hsz:=hb ls 0 h
 have h2:=zdh (W:=zgz) (z:=default) (l:=ls) (λi (out:yC)=>((),ls,(ls.length:Int),(i:Int),())) (λ_ out=>(out,())) (λy out=>.inl (out++y)) (λout=>out) (λi out=>out.length<=i*300000)
  (λi out hi hI=>.inl ⟨_,rfl,by have:=e _ (zp hi); simp only [qg]; omega,λH K D=>by
   show (zdf ls ls.length i out).ev H K D=_;unfold zdf;have hle:=e _ (zp hi);have hr:decide ((out.length+(ls.getD i default).length)*32<=zN)=true:=by simp only [qe]; omega
   simp only [Wy.ev_i,Wy.ev_k,Wy.ev_h,Wy.ev_bn,Wy.ev_d,tT,hi,hr];rw [zL (by omega)]⟩)
  (λout hI H K D=>by
   show (zdf ls ls.length ls.length out).ev H K D=_;unfold zdf;simp only [Wy.ev_i,Wy.ev_k,tT,Nat.lt_irrefl]) (ls.length+(Int.ofNat ls.length).toNat +Int.toNat (0:Int)+([]:yC).length+(1:Nat)) 0 [] (by omega) (by omega) (by simp)
 rw [List.drop_zero,zdi] at h2;have h2:zlJ (ls.length+(Int.ofNat ls.length).toNat +Int.toNat (0:Int)+([]:yC).length+(1:Nat)) ls (Int.ofNat ls.length) 0 []=_:=h2
 have hf:∀ (r:yA) (out:yC),r.foldl (λout y=>out++y) out=out++r.flatten:=λr=>by
  induction r with
  | nil=>intro out; simp
  | cons y r ih=>intro out; rw [List.foldl_cons,ih,List.flatten_cons,List.append_assoc]
 rw [Wy.fin_bn,h1,cond_true];simp only [Wy.fin_bn,zbkd _ (show ls.foldl (λn (y:yC)=>n+y.length) 0<=4000000 by have:=Nat.mul_le_mul hn (Nat.le_refl 300000); omega),cond_true,h2,Wy.fin_k]
 rw [hf]; simp
theorem zblk (n:Nat) (h:n<=4000000):zeF (n:Int)=(true,[]):=by
 have hreach:zN=70368744177664:=rfl;unfold zeF zoj;have e0:IntKind.i64.wrap ((0:Int) - 0)=0:=rfl;have e1:IntKind.i64.wrap ((n:Int) - 0)=(n:Int):=by rw [zcd (by omega) (by omega)]; omega
 have e2:decide ((n:Int)<0)=false:=decide_eq_false (by omega)
 rw [Wy.fin_i,e2,cond_false,e0,e1];by_cases hn:(n:Int)>0
 ·have e3:(true&&(decide ((n:Int)*Int.ofNat (128:Nat)<=Int.ofNat zN)&&(decide ((n:Int)<=Int.ofNat zN)&& !Nat.beq (11:Nat) (0:Nat))))=true:=by
   simp only [qc,qe,Int.ofNat_eq_natCast];exact ⟨trivial,by rw [hreach]; omega,by rw [hreach]; omega,rfl⟩
  rw [Wy.fin_i,decide_eq_true hn,cond_true,Wy.fin_i,e3,cond_true,Wy.fin_k];simp
 ·rw [Wy.fin_i,decide_eq_false hn]; rfl
theorem zbim (ls:List (yD)) (hn:ls.length<=10) (h:∀ l∈ls,l.length<=300000):zec ls=(true,ls.flatten):=by
 have hreach:zN=70368744177664:=rfl;unfold zec znm;have e:∀ l:yD,l∈ls->l.length<=300000:=h
 have h1:=zdh (W:=zhk) (z:=default) (l:=ls) (λi (n:Nat)=>(ls,(n:Int),ls,(ls.length:Int),(i:Int),())) (λ_ _=>()) (λy n=>.inl (n+y.length)) (λn=>(ls,(n:Int))) (λi n=>n<=i*300000)
  (λi n hi hI=>.inl ⟨_,rfl,by have:=e _ (zp hi); omega,λH K D=>by
   show (zdx ls n ls ls.length i).ev H K D=_;unfold zdx;have hle:=e _ (zp hi);have hw:IntKind.i64.wrap ((n:Int)+((ls.getD i default).length:Int))=((n+(ls.getD i default).length:Nat):Int):=zpC (by omega)
   simp only [Wy.ev_i,Wy.ev_k,Wy.ev_h,Wy.ev_bn,Wy.ev_d,tT,hi,hw];have h0:decide (((n+(ls.getD i default).length:Nat):Int)<0)=false:=decide_eq_false (by omega)
   rw [h0,zL (by omega)]; rfl⟩)
  (λn hI H K D=>by
   show (zdx ls n ls ls.length ls.length).ev H K D=_;unfold zdx;simp only [Wy.ev_i,Wy.ev_k,tT,Nat.lt_irrefl]) (ls.length+Int.toNat (0:Int)+ls.length+(Int.ofNat ls.length).toNat +Int.toNat (0:Int)+(1:Nat)) 0 0 (by omega) (by omega) (by omega)
 rw [List.drop_zero,zdi] at h1;have h1:zmI (ls.length+Int.toNat (0:Int)+ls.length+(Int.ofNat ls.length).toNat +Int.toNat (0:Int)+(1:Nat)) ls 0 ls (Int.ofNat ls.length) 0=_:=h1
 have hb:∀ (r:List (yD)) (n:Nat),(∀ l∈r,l.length<=300000)->r.foldl (λn (y:yD)=>n+y.length) n<=n+r.length*300000:=λr=>by
  induction r with
  | nil=>intro n _; simp
  | cons y r ih=>
   intro n hr;have q1:=ih (n+y.length) λl hl=>hr l (by simp [hl])
   have q2:=hr y (by simp)
   rw [List.foldl_cons,qf]; omega
 have hsz:=hb ls 0 h
 have h2:=zdh (W:=zgW) (z:=default) (l:=ls) (λi (out:yD)=>((),ls,(ls.length:Int),(i:Int),())) (λ_ out=>(out,())) (λy out=>.inl (out++y)) (λout=>out) (λi out=>out.length<=i*300000)
  (λi out hi hI=>.inl ⟨_,rfl,by have:=e _ (zp hi); simp only [qg]; omega,λH K D=>by
   show (zdm ls ls.length i out).ev H K D=_;unfold zdm;have hle:=e _ (zp hi);have hr:decide ((out.length+(ls.getD i default).length)*128<=zN)=true:=by simp only [qe]; omega
   simp only [Wy.ev_i,Wy.ev_k,Wy.ev_h,Wy.ev_bn,Wy.ev_d,tT,hi,hr];rw [zL (by omega)]⟩)
  (λout hI H K D=>by
   show (zdm ls ls.length ls.length out).ev H K D=_;unfold zdm;simp only [Wy.ev_i,Wy.ev_k,tT,Nat.lt_irrefl]) (ls.length+(Int.ofNat ls.length).toNat +Int.toNat (0:Int)+([]:yD).length+(1:Nat)) 0 [] (by omega) (by omega) (by simp)
 rw [List.drop_zero,zdi] at h2;have h2:zl0 (ls.length+(Int.ofNat ls.length).toNat +Int.toNat (0:Int)+([]:yD).length+(1:Nat)) ls (Int.ofNat ls.length) 0 []=_:=h2
 have hf:∀ (r:List (yD)) (out:yD),r.foldl (λout y=>out++y) out=out++r.flatten:=λr=>by
  induction r with
  | nil=>intro out; simp
  | cons y r ih=>intro out; rw [List.foldl_cons,ih,List.flatten_cons,List.append_assoc]
 rw [Wy.fin_bn,h1,cond_true];simp only [Wy.fin_bn,zblk _ (show ls.foldl (λn (y:yD)=>n+y.length) 0<=4000000 by have:=Nat.mul_le_mul hn (Nat.le_refl 300000); omega),cond_true,h2,Wy.fin_k]
 rw [hf]; simp
theorem zKL {d:Nat} (hd:d<=99):∀ (n:Nat) (a b out:yD),a.length+b.length<n->a.length+b.length+out.length<=1000000->(∀ x∈a,zdd (zo d) x.At/\0<=x.Exp/\x.Exp<=1000000)->(∀ x∈b,0<=x.Exp/\x.Exp<=1000000)->
  ∃ a' b' out',zCL n a b out=(true,(a',b',out'))/\out'++(a'++b')=out++zbQ a b/\a'.length<=a.length/\b'.length<=b.length/\out'.length<=out.length+a.length+b.length
 | 0,a,b,out,h,_,_,_=>by omega
 | n+1,a,b,out,h,hl,ha,hb=>by
  have hreach:zN=70368744177664:=rfl;show ∃ a' b' out',(zCC a b out).ev (λx y=>zCL n x.1 x.2.1 y.1) (λr=>(true,r)) (false,default)=_/\_
  unfold zCC
  match a,b,h,hl,ha,hb with
  | [],b,h,hl,ha,hb=>exact ⟨[],b,out,rfl,by rw [zbQ]; simp,Nat.le_refl _,Nat.le_refl _,by omega⟩
  | x::a,[],h,hl,ha,hb=>
   have e1:decide (Int.ofNat (x::a).length>0)=true:=by simp
   refine ⟨x::a,[],out, ?_,by rw [zbQ]; simp,Nat.le_refl _,Nat.le_refl _,by omega⟩
   rw [Wy.ev_i,e1,cond_true]; rfl
  | x::a,y::b,h,hl,ha,hb=>
   have hx:=ha x (by simp)
   have hy:=hb y (by simp)
   simp only [qf] at h hl;have e1:decide (Int.ofNat (x::a).length>0)=true:=by simp
   have e2:decide (Int.ofNat (y::b).length>0)=true:=by simp
   have e3:(decide ((0:Int)<=0)&&decide ((0:Int)<Int.ofNat (x::a).length))=true:=by simp
   have e4:(decide ((0:Int)<=0)&&decide ((0:Int)<Int.ofNat (y::b).length))=true:=by simp
   have e5:(x::a).getD (Int.toNat 0) default=x:=rfl;have e6:(y::b).getD (Int.toNat 0) default=y:=rfl;have e7:∀ z:Fc,decide ((out.length+[z].length)*128<=zN)=true:=λz=>by simp only [qe,List.length_singleton]; omega
   have e8:(decide ((0:Int)<=1)&&decide ((1:Int)<=Int.ofNat (x::a).length)&&decide (Int.ofNat (x::a).length<=Int.ofNat (x::a).length))=true:=by simp; omega
   have e9:(decide ((0:Int)<=1)&&decide ((1:Int)<=Int.ofNat (y::b).length)&&decide (Int.ofNat (y::b).length<=Int.ofNat (y::b).length))=true:=by simp; omega
   have e10:List.take ((Int.ofNat (x::a).length).toNat - Int.toNat 1) (List.drop (Int.toNat 1) (x::a))=a:=by rw [show Int.toNat 1=1 from rfl,zF5]; rfl
   have e11:List.take ((Int.ofNat (y::b).length).toNat - Int.toNat 1) (List.drop (Int.toNat 1) (y::b))=b:=by rw [show Int.toNat 1=1 from rfl,zF5]; rfl
   have ea:∀ z∈a,zdd (zo d) z.At/\0<=z.Exp/\z.Exp<=1000000:=λz hz=>ha z (by simp [hz])
   have eb:∀ z∈b,0<=z.Exp/\z.Exp<=1000000:=λz hz=>hb z (by simp [hz])
   have ex:(FO.mk x.At x.Exp:Fc)=x:=rfl;have ey:(FO.mk y.At y.Exp:Fc)=y:=rfl;simp only [Wy.ev_i,Wy.ev_k,Wy.ev_h,Wy.ev_bn,Wy.ev_d,e1,e2,e3,e4,e5,e6,e7,e8,e9,e10,e11,cond_true,At.eta,zz3 hx.1 hd,z8Q,ex,ey];rw [zbQ];have hcf:cF x y=zbf (zdw x.At) (zdw y.At):=rfl;rw [<- hcf];by_cases h1:cF x y<0
   ·simp only [h1,decide_true,cond_true,if_true];obtain ⟨a',b',out',r1,r2,r3,r4,r5⟩:=zKL hd n a (y::b) (out++[x]) (by simp only [qf]; omega) (by simp only [qf,qg,List.length_nil]; omega) ea hb
    refine ⟨a',b',out',r1,by rw [r2]; simp,by simp only [qf]; omega,by simpa using r4,by simp only [qf,qg,List.length_nil] at r5 ⊢; omega⟩
   ·by_cases h2:0<cF x y
    ·have h2':cF x y>0:=h2;simp only [h1,h2,h2',decide_true,decide_false,cond_true,cond_false,if_true,if_false];obtain ⟨a',b',out',r1,r2,r3,r4,r5⟩:=zKL hd n (x::a) b (out++[y]) (by simp only [qf]; omega) (by simp only [qf,qg,List.length_nil]; omega) ha eb
     refine ⟨a',b',out',r1,by rw [r2]; simp,by simpa using r3,by simp only [qf]; omega,by simp only [qf,qg,List.length_nil] at r5 ⊢; omega⟩
    ·have h2':¬ cF x y>0:=h2;have hw:IntKind.i64.wrap (x.Exp+y.Exp)=x.Exp+y.Exp:=zcd (by omega) (by omega)
     simp only [h1,h2,h2',decide_false,cond_false,if_false,hw];have hk:(x.At.Kind==3||x.At.Kind==4)=decide (x.At.Kind=3\/x.At.Kind=4):=by rw [zhL,zhL, <- Bool.decide_or]
     rw [hk];by_cases h3:x.At.Kind=3\/x.At.Kind=4
     ·simp only [h3,decide_true,Bool.not_true,cond_false,if_true];obtain ⟨a',b',out',r1,r2,r3,r4,r5⟩:=zKL hd n a b (out++[x]) (by omega) (by simp only [qg,qf,List.length_nil]; omega) ea eb
      refine ⟨a',b',out',r1,by rw [r2]; simp,by simp only [qf]; omega,by simp only [qf]; omega,by simp only [qf,qg,List.length_nil] at r5 ⊢; omega⟩
     ·simp only [h3,decide_false,Bool.not_false,cond_true,if_false];obtain ⟨a',b',out',r1,r2,r3,r4,r5⟩:=zKL hd n a b (out++[⟨x.At,x.Exp+y.Exp⟩]) (by omega) (by simp only [qg,qf,List.length_nil]; omega) ea eb
      refine ⟨a',b',out',r1,by rw [r2]; simp,by simp only [qf]; omega,by simp only [qf]; omega,by simp only [qf,qg,List.length_nil] at r5 ⊢; omega⟩
theorem zbjw {d:Nat} (hd:d<=99) (a b:yD) (hl:a.length+b.length<=100000) (ha:∀ x∈a,zdd (zo d) x.At/\0<=x.Exp/\x.Exp<=1000000) (hb:∀ x∈b,0<=x.Exp/\x.Exp<=1000000):zpj a b=(true,zbQ a b):=by
 unfold zpj zMH;obtain ⟨a',b',out',r1,r2,r3,r4,r5⟩:=zKL hd (a.length+b.length+(0:Nat)+(1:Nat)) a b [] (by omega) (by simp; omega) ha hb
 rw [Wy.fin_bn,r1,cond_true]
 have hc:=zbim [out',a',b'] (by simp) (λl hl'=>by
  simp only [qd,List.not_mem_nil,or_false] at hl';simp only [List.length_nil] at r5;rcases hl' with rfl | rfl | rfl <;>omega)
 simp only [Wy.fin_bn,hc,cond_true,Wy.fin_k];congr 1
 simpa using r2
theorem zbcc {a b:Int} (ha:1<=a/\a<=1152921504606846976) (hb:1<=b/\b<=1152921504606846976):zsm a b=(true,zCA a b)/\zEZ a b=(true,zCA a b):=by
 obtain ⟨h1,h2⟩:=z6M ha hb;have h0:(!decide (b=(0:Int)))=true:=by rw [decide_eq_false (by omega)]; rfl
 have hq:0<=Int.tdiv 1152921504606846976 b/\Int.tdiv 1152921504606846976 b<=1152921504606846976:=by
  rw [Int.tdiv_eq_ediv_of_nonneg (by omega)]
  exact ⟨Int.ediv_nonneg (by omega) (by omega),Int.ediv_le_self _ (by omega)⟩
 have hw:IntKind.i64.wrap (Int.tdiv 1152921504606846976 b)=Int.tdiv 1152921504606846976 b:=zcd (by omega) (by omega)
 have key:∀ w:Int,(w=if Int.tdiv 1152921504606846976 b<a then 1152921504606846976 else IntKind.i64.wrap (a*b))->w=zCA a b:=λw e=>by
  rw [e]; unfold zCA;split
  ·rfl
  ·rename_i hn;have h3:=h2 hn;have h4:=Int.mul_nonneg (show 0<=a by omega) (show 0<=b by omega)
   exact zcd (by omega) (by omega)
 constructor
 ·unfold zsm zLc;rw [Wy.fin_i,h0,cond_true,Wy.fin_i,hw,Wy.fin_k,Wy.fin_k];by_cases hc:Int.tdiv 1152921504606846976 b<a
  ·rw [decide_eq_true hc,cond_true]; exact congrArg (Prod.mk true) (key _ (by rw [if_pos hc]))
  ·rw [decide_eq_false hc,cond_false]; exact congrArg (Prod.mk true) (key _ (by rw [if_neg hc]))
 ·unfold zEZ zXe;rw [Wy.fin_i,h0,cond_true,Wy.fin_i,hw,Wy.fin_k,Wy.fin_k];by_cases hc:Int.tdiv 1152921504606846976 b<a
  ·rw [decide_eq_true hc,cond_true]; exact congrArg (Prod.mk true) (key _ (by rw [if_pos hc]))
  ·rw [decide_eq_false hc,cond_false]; exact congrArg (Prod.mk true) (key _ (by rw [if_neg hc]))
theorem zwT {τ:Type} [Inhabited τ] {R:τ->τ->Prop} (ht:∀ x y z,R x y->R y z->R x z):∀ l:List τ,(∀ k,0<k->k<l.length->R (l.getD (k - 1) default) (l.getD k default))->l.Pairwise R
 | [],_=>.nil
 | [x],_=>by simp
 | x::y::r,h=>by
  have h1:R x y:=h 1 (by omega) (by simp)
  have h2:=zwT ht (y::r) λk hk hl=>by
   have:=h (k+1) (by omega) (by simpa using hl)
   obtain ⟨j,rfl⟩:∃ j,k=j+1:=⟨k - 1,by omega⟩
   exact this
  refine qi.2 ⟨λz hz=> ?_,h2⟩
  rcases qd.1 hz with rfl | hz
  ·exact h1
  ·exact ht x y z h1 ((qi.1 h2).1 z hz)
def GF (f:Fc):Prop:=(zen (zbD 9) f.At=true/\zgN f.At/\f.At.Items.length<=1024)/\1<=f.Exp/\f.Exp<=1000000
def GT (t:Term):Prop:=cOK t/\t.Fs.length<=1000/\∀ f∈t.Fs,GF f
def VT (t:Term):Prop:=GT t/\Srf t.Fs/\t.Fs.length<=64/\∀ f∈t.Fs,eOK f/\f.Exp<=64
theorem znD {a:yC} (h:zV a=true) (hw:zgX a):Srs a/\a.length<=512/\∀ t∈a,VT t:=by
 have h9:=zVo h (Nat.le_refl 9);rw [z7i] at h;obtain ⟨w1,w2,w3,w4⟩:=zuL (zK0 h);have hall:=h;simp only [zAY,qc] at hall;refine ⟨zwT (R:=λx y=>cT x y<0) (λx y z h1 h2=>zJz h1 h2) a λk hk hl=> ?_,w1,λt ht=> ?_⟩
 ·have:=zed.1 hall.2 k (by omega) (by omega)
  simp only [zHC,qc,Bool.or_eq_true,qe] at this;rcases this.1.2 with e | e
  ·omega
  ·exact e
 ·obtain ⟨hc,hok⟩:=zyo h ht;obtain ⟨l1,l2⟩:=w4 t ht;have hwt:=zmJ (zuz (zrc hw t ht)).2.1;refine ⟨⟨hc,by omega,λf hf=> ?_⟩,zwT (R:=λx y=>cF x y<0) (λx y z h1 h2=>zJn h1 h2) _ λk hk hl=> ?_,l1,λf hf=> ?_⟩
  ·obtain ⟨⟨e1,_⟩,hv⟩:=zq3 hok hf;exact ⟨⟨by rw [zbgS (Nat.le_refl 9)]; exact hv,(zoq (hwt f hf)).1,(l2 f hf).2⟩,e1,by have:=(l2 f hf).1; omega⟩
  ·have:=zed.1 hok k (by omega) (by omega)
   simp only [zS0,qc,Bool.or_eq_true,qe] at this;rcases this.1.2 with e | e
   ·omega
   ·exact e
  ·obtain ⟨⟨_,e2⟩,hv⟩:=zq3 hok hf;exact ⟨⟨zHh hv,e2⟩,(l2 f hf).1⟩
theorem zn8 {m:Nat} {x:At} (h:zen (zbD m) x=true) (hi:x.Items.length<=1024):zdd (zo 9) x:=by
 cases zdL.1 h with
 | var r h=>exact ⟨⟨by simp,by simp,by show (ByteArray.mk #[]).size<=_; decide⟩,λa ha=>(by cases ha),λw hw=>(by cases hw)⟩
 | mon b c hb hc _ _ _=>
  refine ⟨⟨by simp,by simp,by show (ByteArray.mk #[]).size<=_; decide⟩,λy hy=> ?_,λw hw=>(by cases hw)⟩
  simp only [qd,List.not_mem_nil,or_false] at hy;rcases hy with rfl | rfl
  ·exact (ze1 hb).1
  ·exact (ze1 hc).1
 | del b hb _ _ _=>
  refine ⟨⟨by simp,by simp,by show (ByteArray.mk #[]).size<=_; decide⟩,λy hy=> ?_,λw hw=>(by cases hw)⟩
  rw [qh] at hy; subst hy; exact (ze1 hb).1
 | abs b hb _ _=>
  refine ⟨⟨by simp,by simp,by show (ByteArray.mk #[]).size<=_; decide⟩,λy hy=> ?_,λw hw=>(by cases hw)⟩
  rw [qh] at hy; subst hy; exact (ze1 hb).1
 | tst f l o b hl hv hs hf=>
  obtain ⟨_,hb,hit⟩:=zvb hf;simp only at hi;exact ⟨⟨by simp,by simp only; omega,by have:=zyv hb; simp only; omega⟩,λa ha=>(by cases ha),λw hw=>⟨by have:=zyv (hit w hw).1; omega,(ze1 (hv w hw).1).1⟩⟩
theorem GT.fine {t:Term} (h:GT t):zcs (zo 9) t.Fs:=⟨by have:=h.2.1; omega,λf hf=>zn8 (h.2.2 f hf).1.1 (h.2.2 f hf).1.2.2⟩
theorem GF.gF {f:Fc} (h:GF f):gF (zbD 9) f:=⟨h.1.1,h.1.2.1,by constructor <;>(have:=h.2; omega)⟩
theorem GT.text {t:Term} (h:GT t):zst t.Fs=(true,bs (txL t.Fs)):=
 (zbcB 1000).2.2 9 t.Fs h.2.1 (λf hf=>⟨(h.2.2 f hf).1.1,(h.2.2 f hf).1.2.1,(h.2.2 f hf).1.2.2,(h.2.2 f hf).gF.2.2⟩) (by omega)
theorem GT.inj {s t:Term} (hs:GT s) (ht:GT t) (h:bs (txL s.Fs)=bs (txL t.Fs)):s.Fs=t.Fs:=
 zbjZ (λf hf=>(hs.2.2 f hf).gF) (λf hf=>(ht.2.2 f hf).gF) (zbkU h)
def zqq:Int->yC->List (Go.Value×Int)
 | _,[]=>[]
 | i,t::r=>(.string (bs (txL t.Fs)),i)::zqq (i+1) r
def zMk (k:ByteArray):yC->Option Nat
 | []=>none
 | t::r=>if k=bs (txL t.Fs) then some 0 else (zMk k r).map (· +1)
theorem zRy (k:ByteArray) (t:Term) (r:yC):zMk k (t::r)=if k=bs (txL t.Fs) then some 0 else (zMk k r).map (· +1):=rfl
theorem zbhA (a b:ByteArray):zm6 (.string a) (.string b)=decide (a=b):=by
 cases a with | mk x=>cases b with | mk y=>
 show (x==y)=_;by_cases h:x=y
 ·subst h; simp
 ·have:(x==y)=false:=by rw [beq_eq_false_iff_ne]; exact h
  rw [this]; simp [h]
theorem zbc3 (k:ByteArray):∀ (o:yC) (i:Int),zbeM (.string k) (zqq i o)=(zMk k o).isSome
 | [],i=>rfl
 | t::r,i=>by
  show (bif zm6 (.string k) (.string (bs (txL t.Fs))) then true else zbeM (.string k) (zqq (i+1) r))=_
  rw [zbhA,zbc3 k r,zRy];by_cases h:k=bs (txL t.Fs)
  ·rw [decide_eq_true h,if_pos h]; rfl
  ·rw [decide_eq_false h,if_neg h]; cases zMk k r <;>rfl
theorem zbbE (k:ByteArray):∀ (o:yC) (i:Int),zG9 (.string k) (zqq i o)=(zMk k o).map λj:Nat=>i+(j:Int)
 | [],i=>rfl
 | t::r,i=>by
  show (bif zm6 (.string k) (.string (bs (txL t.Fs))) then some i else zG9 (.string k) (zqq (i+1) r))=_
  rw [zbhA,zbbE k r,zRy];by_cases h:k=bs (txL t.Fs)
  ·rw [decide_eq_true h,if_pos h]; simp
  ·rw [decide_eq_false h,if_neg h];cases zMk k r with
   | none=>rfl
   | some j=>
    have e:i+1+(j:Int)=i+((j+1:Nat):Int):=by omega
    simp only [cond_false,Option.map_some,e]
theorem zbch (k:ByteArray) (x:Int):∀ (o:yC) (i:Int),zMk k o=none->zbeL (.string k) x (zqq i o)=zqq i o++[(.string k,x)]
 | [],i,_=>rfl
 | t::r,i,h=>by
  rw [zRy] at h;by_cases hk:k=bs (txL t.Fs)
  ·rw [if_pos hk] at h; cases h
  ·rw [if_neg hk] at h;show (bif zm6 (.string k) (.string (bs (txL t.Fs))) then _ else (.string (bs (txL t.Fs)),i)::zbeL (.string k) x (zqq (i+1) r))=_
   rw [zbhA,decide_eq_false hk,zbch k x r (i+1) (by cases hp:zMk k r with | none=>rfl | some j=>rw [hp] at h; cases h)]
   rfl
theorem z9T (t:Term):∀ (o:yC) (i:Int),zqq i (o++[t])=zqq i o++[(.string (bs (txL t.Fs)),i+(o.length:Int))]
 | [],i=>by simp [zqq]
 | x::r,i=>by
  have e:i+1+(r.length:Int)=i+((r.length+1:Nat):Int):=by omega
  simp only [List.cons_append,zqq,qf,z9T t r,e]
theorem z93 (y:Term):∀ (o:yC) (j:Nat) (i:Int),(o.getD j default).Fs=y.Fs->zqq i (o.set j y)=zqq i o
 | [],j,i,_=>rfl
 | x::r,0,i,h=>by simp only [List.set_cons_zero,zqq]; rw [show x.Fs=y.Fs from h]
 | x::r,j+1,i,h=>by simp only [List.set_cons_succ,zqq]; rw [z93 y r j (i+1) h]
theorem zbev {t:Term} (ht:GT t):∀ {o:yC},(∀ x∈o,GT x)->(match zMk (bs (txL t.Fs)) o with
  | some j=>j<o.length/\(o.getD j default).Fs=t.Fs/\zoD t o=o.set j ⟨zDs (o.getD j default).Cf t.Cf,(o.getD j default).Fs⟩
  | none=>zoD t o=o++[t])
 | [],_=>rfl
 | x::r,h=>by
  have ih:=zbev ht (o:=r) λy hy=>h y (by simp [hy])
  rw [zRy];unfold zoD;by_cases hk:bs (txL t.Fs)=bs (txL x.Fs)
  ·have e:=GT.inj ht (h x (by simp)) hk
   rw [if_pos hk,if_pos e.symm];exact ⟨by simp,e.symm,rfl⟩
  ·have e:¬ x.Fs=t.Fs:=λe=>hk (by rw [e])
   rw [if_neg hk,if_neg e];cases hp:zMk (bs (txL t.Fs)) r with
   | none=>rw [hp] at ih; simp only [Option.map_none]; rw [ih]; rfl
   | some j=>
    rw [hp] at ih;obtain ⟨i1,i2,i3⟩:=ih;simp only [Option.map_some];exact ⟨by simp; exact i1,i2,by rw [i3]; rfl⟩
theorem zbgF {t:Term} (ht:GT t) {o:yC} (ho:∀ x∈o,GT x):∀ x∈zoD t o,GT x:=by
 induction o with
 | nil=>intro x hx; simp only [zoD,qh] at hx; subst hx; exact ht
 | cons y r ih=>
  intro x hx;unfold zoD at hx;split at hx
  ·rcases qd.1 hx with rfl | hx
   ·have:=ho y (by simp)
    exact ⟨z9Q this.1.1 ht.1.1,this.2⟩
   ·exact ho x (by simp [hx])
  ·rcases qd.1 hx with rfl | hx
   ·exact ho x (by simp)
   ·exact ih (λz hz=>ho z (by simp [hz])) x hx
theorem z86 (t:Term):∀ o:yC,(zoD t o).length<=o.length+1
 | []=>by simp [zoD]
 | y::r=>by
  have:=z86 t r;unfold zoD;split
  ·simp
  ·simp only [qf]; omega
theorem zbgq (ts:yC) (hl:ts.length<=1000000) (h:∀ t∈ts,GT t) (n:Nat) (hn:ts.length<n):zwY n ts ts.length 0 [] []=(true,zRw ts):=by
 have hreach:zN=70368744177664:=rfl
 have h2:=zdh (W:=zw3) (z:=default) (l:=ts) (λi (out:yC)=>((),(),ts,(ts.length:Int),(i:Int),())) (λ_ out=>(zqq 0 out,out,())) (λt out=>.inl (zoD t out)) (λout=>out) (λi out=>out.length<=i/\∀ t∈out,GT t)
  (λi out hi hI=>.inl ⟨_,rfl,⟨by have:=z86 (ts.getD i default) out; omega,zbgF (h _ (zp hi)) hI.2⟩,λH K D=>by
   show (zla ts ts.length i (zqq 0 out) out).ev H K D=_;unfold zla;have ht:=h _ (zp hi);have hp:=zbev ht hI.2;have hhas:=zbc3 (bs (txL (ts.getD i default).Fs)) out 0;have hget:=zbbE (bs (txL (ts.getD i default).Fs)) out 0;simp only [Wy.ev_i,Wy.ev_k,Wy.ev_h,Wy.ev_bn,Wy.ev_d,tT,hi,ht.text];rw [hhas,hget,zL (by omega)]
   cases hpos:zMk (bs (txL (ts.getD i default).Fs)) out with
   | none=>
    rw [hpos] at hp;have hb:decide ((out.length+[ts.getD i default].length)*32<=zN)=true:=by simp only [qe,List.length_singleton]; omega
    simp only [Option.isSome_none,cond_false,hb,cond_true];rw [zbch _ _ _ _ hpos,hp,z9T];simp
   | some j=>
    rw [hpos] at hp;obtain ⟨p1,p2,p3⟩:=hp;have hj:=hI.2 _ (zp p1);have hw:IntKind.i64.wrap ((out.getD j default).Cf+(ts.getD i default).Cf)=(out.getD j default).Cf+(ts.getD i default).Cf:=zbeA ⟨by have:=hj.1.1; omega,hj.1.2⟩ ⟨by have:=ht.1.1; omega,ht.1.2⟩
    have e1:(0:Int)+(j:Int)=(j:Int):=by omega
    have e2:decide (j<out.length)=true:=decide_eq_true p1;simp only [Option.isSome_some,Option.map_some,Option.getD_some,e1,cond_true,tT,e2,hw];rw [p3,z93 ⟨zDs (out.getD j default).Cf (ts.getD i default).Cf,(out.getD j default).Fs⟩ out j 0 rfl];rfl⟩)
  (λout hI H K D=>by
   show (zla ts ts.length ts.length (zqq 0 out) out).ev H K D=_;unfold zla;simp only [Wy.ev_i,Wy.ev_k,tT,Nat.lt_irrefl]) n 0 [] (by omega) (by omega) ⟨by simp,λt ht=>by cases ht⟩
 rw [List.drop_zero,zdi] at h2;exact h2
theorem zbeF:∀ (ts o:yC),(∀ t∈ts,GT t)->(∀ t∈o,GT t)->∀ x∈ts.foldl (λa t=>zoD t a) o,GT x
 | [],o,_,ho=>ho
 | t::r,o,h,ho=>zbeF r (zoD t o) (λx hx=>h x (by simp [hx])) (zbgF (h t (by simp)) ho)
theorem zbae:∀ (ts o:yC),(ts.foldl (λa t=>zoD t a) o).length<=o.length+ts.length
 | [],o=>by simp
 | t::r,o=>by
  have h1:=zbae r (zoD t o);have h2:=z86 t o;rw [List.foldl_cons,qf]; omega
theorem z7f (ts:yC) (hl:ts.length<=1000000) (h:∀ t∈ts,GT t):ziW ts=(true,zgB [] ts):=by
 unfold ziW zHL;have hL:=zbgq ts hl h (ts.length+(Int.ofNat ts.length).toNat +Int.toNat (0:Int)+(0:Nat)+(0:Nat)+(1:Nat)) (by omega)
 have hL:zwY (ts.length+(Int.ofNat ts.length).toNat +Int.toNat (0:Int)+(0:Nat)+(0:Nat)+(1:Nat)) ts (Int.ofNat ts.length) 0 [] []=_:=hL;rw [Wy.fin_bn,hL,cond_true];obtain ⟨hp,hd⟩:=z94 ts [] [] .nil .nil .nil;have hs:=z1T ts [] .nil;have hg:∀ x∈zRw ts,GT x:=zbeF ts [] h λx hx=>by cases hx
 have hlen:(zRw ts).length<=1000000:=by have:=zbae ts []; simp at this; exact Nat.le_trans this hl
 have e:∀ x∈zRw ts,∀ y,zb9 x y=(true,cT x y):=λx hx y=>zz1 (hg x hx).fine (by omega) y
 have ok:SortOK zb9 (zRw ts):=by
  refine ⟨by omega,λx hx y _=>by rw [e x hx],λx hx=> ?_,λx hx y hy z hz h1 h2=> ?_,λx hx y hy z hz h1 h2=> ?_,λx hx y hy h1 h2=> ?_⟩
  ·rw [e x hx]; have:=zF1 (x:=x) (y:=x) rfl; simp only; omega
  ·rw [e x hx] at h1 ⊢; rw [e y hy] at h2;exact zJz h1 h2
  ·rw [e x hx] at h1 ⊢; rw [e y hy] at h2;simp only at h1 h2 ⊢;have a1:=zJC x y;have a2:=zJC y z;have a3:=zJC x z;have:=zNT (zbE z.Fs) (zbE y.Fs) (zbE x.Fs) (show cT z y<=0 by omega) (show cT y x<=0 by omega)
   have:cT z x<=0:=this;omega
  ·rw [e x hx] at h1; rw [e y hy] at h2;simp only at h1 h2;have a1:=zJC x y;have hz:x.Fs=y.Fs:=z1L (by omega)
   by_cases hxy:x=y
   ·exact hxy
   ·exfalso
    -- two terms with the same factors are one
    have hdd:Dst (zRw ts):=hd;have:=List.pairwise_iff_getElem.1 hdd;obtain ⟨i,hi,ei⟩:=List.mem_iff_getElem.1 hx;obtain ⟨j,hj,ej⟩:=List.mem_iff_getElem.1 hy;rcases Nat.lt_trichotomy i j with hij | hij | hij
    ·exact this i j hi hj hij (by rw [ei,ej]; exact hz)
    ·subst hij; exact hxy (ei.symm.trans ej)
    ·exact this j i hj hi hij (by rw [ei,ej]; exact hz.symm)
 unfold zbS zDc;simp only [Wy.fin_bn,Wy.fin_k,decide_eq_true ok,cond_true];congr 1;refine (ok.unique (hp:(zgB [] ts).Perm (zRw ts)) ?_).symm;refine hs.imp_of_mem λ{x y} hx hy hxy=> ?_
 rw [e y ((hp:(zgB [] ts).Perm (zRw ts)).mem_iff.1 hy)];have:=zJC x y;simp only; omega
mutual
theorem zbdS:∀ x:At,zfO x<=zIO x
 | ⟨_,_,a,_,i,_,_⟩=>by
  rw [zfO,zIO];have h1:=z32 a;have h2:=z0l i;omega
theorem zTm:∀ l:yD,zbM l<=zhX l
 | []=>by rw [zbM,zhX]; exact Nat.le_refl _
 | ⟨x,_⟩::r=>by
  rw [zbM,zhX];have h1:=zbdS x;have h2:=zTm r;omega
theorem zNa:∀ l:yC,zP l<=ze0 l
 | []=>by rw [zP,ze0]; exact Nat.le_refl _
 | ⟨_,fs⟩::r=>by
  rw [zP,ze0];have h1:=zTm fs;have h2:=zNa r;omega
theorem z32:∀ l:yA,zfN l<=zrF l
 | []=>by rw [zfN,zrF]; exact Nat.le_refl _
 | a::r=>by
  rw [zfN,zrF];have h1:=zNa a;have h2:=z32 r;omega
theorem z0l:∀ l:yE,zdy l<=l.length+zmm l
 | []=>by rw [zdy,zmm]; exact Nat.zero_le _
 | ⟨_,a⟩::r=>by
  rw [zdy,zmm];have h1:=zNa a;have h2:=z0l r;simp only [qf];omega
end
theorem zbh4 (d:Nat):zo (d+1) []:=⟨by simp,λt ht=>by cases ht⟩
def zLS (a:yC) (b:yC):Wy0 (yC×Int):=.bn (zfa a) λr3=>.i (!r3) (.k ([],1)) (.bn (zfa b) λr2=>.i (!r2) (.k ([],1)) (.i (Int.ofNat b.length==0) (.k (a,0)) (.i (Int.ofNat a.length==0) (.k ([],0)) (.bn (zmu a b) λr1=>.i (r1) (.k ([],0)) (.bn (zon (znY (At.mk 1 (RowID.mk 0 0) [a,b] 0 [] 0 (Value.mk 0 0 (ByteArray.mk #[])))).2) λr0=>.k (r0.1,r0.2))))))
def zEE (a:yC) (b:yC):=(zLS a b).fin default
def zI6 (a:yC):Wy0 (yC×Int):=.bn (zfa a) λr2=>.i (!r2) (.k ([],1)) (.i (Int.ofNat a.length==0) (.k (zKQ.2,0)) (.bn (zjm a) λr1=>.i (r1) (.k ([],0)) (.bn (zon (znY (At.mk 3 (RowID.mk 0 0) [a] 0 [] 0 (Value.mk 0 0 (ByteArray.mk #[])))).2) λr0=>.k (r0.1,r0.2))))
def zDb (a:yC):=(zI6 a).fin default
theorem zUG {B:Nat}:∀ l:yD,(∀ f∈l,zfO f.At<=B)->zbM l<=l.length*B
 | [],_=>by rw [zjq]; simp
 | f::r,h=>by
  have h1:=h f (by simp)
  have h2:=zUG r λg hg=>h g (by simp [hg])
  rw [zdo,qf,Nat.add_mul]; omega
theorem z6O {B:Nat}:∀ l:yC,(∀ t∈l,1+t.Fs.length+zbM t.Fs<=B)->zP l<=l.length*B
 | [],_=>by rw [zuw]; simp
 | f::r,h=>by
  have h1:=h f (by simp)
  have h2:=z6O r λg hg=>h g (by simp [hg])
  rw [zeS,qf,Nat.add_mul]; omega
theorem z0r {l:yC} (hl:l.length<=1000000) (h:∀ t∈l,GT t):zo 10 l/\zP l<=4611686018427387904:=by
 refine ⟨⟨hl,λt ht=>(h t ht).fine⟩, ?_⟩
 refine Nat.le_trans (z6O (B:=4195330000) l λt ht=> ?_) (by have:=Nat.mul_le_mul hl (Nat.le_refl 4195330000); omega)
 have hg:=h t ht;have h1:=zUG (B:=4195328) t.Fs λf hf=>z3F (hg.2.2 f hf).1.1 (hg.2.2 f hf).1.2.2
 have:=Nat.mul_le_mul hg.2.1 (Nat.le_refl 4195328);have:=hg.2.1;omega
theorem zbbI {t:Term} (ht:GT t) {l:yC} (hs:Srs l) (h:∀ x∈l,GT x):∀ x∈zjX t l,GT x:=λx hx=>by
 have hc:=zbe8 ht.1 (λy hy=>(h y hy).1) x hx
 rcases (zUk hs).1 hx with ⟨h1,_⟩ | ⟨h1,_⟩
 ·exact h x h1
 ·exact ⟨hc,by rw [h1]; exact ht.2⟩
theorem zK2:∀ (b a:yC),Srs a->(∀ x∈a,GT x)->(∀ x∈b,GT x)->∀ x∈zgB a b,GT x
 | [],_,_,ha,_=>ha
 | t::r,a,hs,ha,hb=>zK2 r (zjX t a) (zGi hs) (zbbI (hb t (by simp)) hs ha) λx hx=>hb x (by simp [hx])
theorem zWu {x y:Term} (hx:VT x) (hy:VT y):GT (zna x y):=by
 obtain ⟨gx,sx,lx,ex⟩:=hx;obtain ⟨gy,sy,ly,ey⟩:=hy;refine ⟨(z6M gx.1 gy.1).1,by have:=zPz x.Fs y.Fs; show (zbQ x.Fs y.Fs).length<=1000; omega,λf hf=> ?_⟩
 obtain ⟨g,hg,e⟩:=zvC hf;have hb:=zN7 (B:=64) (λz hz=>⟨(gx.2.2 z hz).2.1,(ex z hz).2⟩) (λz hz=>⟨(gy.2.2 z hz).2.1,(ey z hz).2⟩) hf
 have hv:(zen (zbD 9) g.At=true/\zgN g.At/\g.At.Items.length<=1024):=by
  rcases hg with hg | hg
  ·exact (gx.2.2 g hg).1
  ·exact (gy.2.2 g hg).1
 exact ⟨by rw [e]; exact hv,hb.1,by omega⟩
theorem zWb {a b:yC} (ha:∀ t∈a,VT t) (hb:∀ t∈b,VT t):∀ t∈zfy a b,GT t:=λt ht=>by
 obtain ⟨x,hx,y,hy,rfl⟩:=zbaa ht;exact zWu (ha x hx) (hb y hy)
theorem zbj3 {x y:Term} (hx:VT x) (hy:VT y):zpj x.Fs y.Fs=(true,zbQ x.Fs y.Fs):=by
 obtain ⟨gx,sx,lx,ex⟩:=hx;obtain ⟨gy,sy,ly,ey⟩:=hy;exact zbjw (d:=9) (by omega) _ _ (by omega) (λf hf=>⟨zn8 (gx.2.2 f hf).1.1 (gx.2.2 f hf).1.2.2,by have:=(gx.2.2 f hf).2; omega⟩) λf hf=>by have:=(gy.2.2 f hf).2; omega
theorem zblF (a b:yC) (i:Int) (x:Term) (hx:VT x) (hb:∀ t∈b,VT t) (hbl:b.length<=512) (terms:yC) (hl:terms.length<=1000000) (n:Nat) (hn:b.length<n):
  zMM n b a a.length i b b.length 0 terms x=(true,(b,a,(a.length:Int),i,terms++b.map (zna x))):=by
 have hreach:zN=70368744177664:=rfl
 have:=zee (W:=zEl) (z:=default) b.length (λj=>(b,(),(),a,(a.length:Int),i,b,(b.length:Int),(j:Int),())) (λj=>(terms++(b.take j).map (zna x),x,())) (λ_=>true) default (b,a,(a.length:Int),i,terms++b.map (zna x))
  (λj hj H K D=>by
   show (zpX b a a.length i b b.length j (terms++(b.take j).map (zna x)) x).ev H K D=_;unfold zpX;have hy:=hb _ (zp hj);have hr:decide (((terms++(b.take j).map (zna x)).length+1)*32<=zN)=true:=by simp only [qe,qg,List.length_map,List.length_take]; omega
   simp only [Wy.ev_i,Wy.ev_k,Wy.ev_h,Wy.ev_bn,Wy.ev_d,tT,hj,(zbcc hx.1.1 hy.1.1).1,zbj3 hx hy,List.length_singleton,hr];rw [zL (by omega),zhu hj,List.map_append, <- List.append_assoc]
   rfl)
  (λH K D=>by
   show (zpX b a a.length i b b.length b.length (terms++(b.take b.length).map (zna x)) x).ev H K D=_;unfold zpX;simp only [Wy.ev_i,Wy.ev_k,tT,Nat.lt_irrefl,List.take_length]) n hn
 rw [show zeH (λ_=>true) b.length 0=true from zed.2 λ_ _ _=>rfl] at this
 simp only [List.take_zero,List.map_nil,List.append_nil] at this;exact this
theorem zblA (a b:yC) (ha:∀ t∈a,VT t) (hb:∀ t∈b,VT t) (hal:a.length<=512) (hbl:b.length<=512) (n:Nat) (hn:a.length<n):
  zEg n b a a.length 0 []=(true,zfy a b):=by
 have:=zee (W:=zEw) (z:=default) a.length (λi=>(b,(),a,(a.length:Int),(i:Int),())) (λi=>(zfy (a.take i) b,())) (λ_=>true) default (zfy a b)
  (λi hi H K D=>by
   show (zqa b a a.length i (zfy (a.take i) b)).ev H K D=_;unfold zqa;have hx:=ha _ (zp hi)
   have hlen:(zfy (a.take i) b).length<=1000000:=by
    rw [zRu,List.length_take];have:=Nat.mul_le_mul (show min i a.length<=512 by omega) hbl
    omega
   simp only [Wy.ev_i,Wy.ev_k,Wy.ev_h,Wy.ev_bn,Wy.ev_d,tT,hi];rw [zblF a b i _ hx hb hbl _ hlen _ (by omega)]
   simp only [cond_true];rw [zL (by omega),zhu hi]
   have e:zfy (a.take i++[a.getD i default]) b=zfy (a.take i) b++b.map (zna (a.getD i default)):=by
    unfold zfy; rw [List.flatMap_append]; simp
   rw [e])
  (λH K D=>by
   show (zqa b a a.length a.length (zfy (a.take a.length) b)).ev H K D=_;unfold zqa;simp only [Wy.ev_i,Wy.ev_k,tT,Nat.lt_irrefl,List.take_length]) n hn
 rw [show zeH (λ_=>true) a.length 0=true from zed.2 λ_ _ _=>rfl] at this
 exact this
theorem szTs_get' (a:yC) (i:Nat) (h:i<a.length):(a.getD i default).Fs.length<=zb6 a:=zP5 a i h
theorem zbih (a b:yC) (i:Int) (k:Nat) (hk:k<b.length) (out:yC) (c:Int) (x:Term) (hx:VT x) (hy:VT (b.getD k default)) (n:Nat) (hn:(b.getD k default).Fs.length<n):
  zMB n a b i k 0 out c x.Fs=(true,(a,b,i,(k:Int),out,c,zbQ x.Fs (b.getD k default).Fs)):=by
 obtain ⟨gx,sx,lx,ex⟩:=hx;obtain ⟨gy0,sy,ly,ey⟩:=hy;have gy:∀ f∈(b.getD k default).Fs,GF f:=gy0.2.2;have sy:Srf (b.getD k default).Fs:=sy;clear gy0;generalize hF:(b.getD k default).Fs=F at *
 have key:∀ j,j<F.length->zMm (F.getD j default) (zbQ x.Fs (F.take j))=zbQ x.Fs (F.take (j+1)):=λj hj=>by
  have e1:=zWp (F.take j) x.Fs (sy.sublist (List.take_sublist _ _)) (λz hz=>(ex z hz).1) λz hz=>(ey z (List.mem_of_mem_take hz)).1
  have e2:=zWp (F.take (j+1)) x.Fs (sy.sublist (List.take_sublist _ _)) (λz hz=>(ex z hz).1) λz hz=>(ey z (List.mem_of_mem_take hz)).1
  rw [<- e1, <- e2,zhu hj,List.foldl_append]; rfl
 have:=zee (W:=zEt) (z:=default) F.length (λj=>(a,b,(),i,(k:Int),(),(j:Int),())) (λj=>(out,(c,zbQ x.Fs (F.take j),()),())) (λ_=>true) default (a,b,i,(k:Int),out,c,zbQ x.Fs F)
  (λj hj H K D=>by
   show (zqf a b i k j out c (zbQ x.Fs (F.take j))).ev H K D=_;unfold zqf;have hlen:=zPz x.Fs (F.take j);rw [List.length_take] at hlen;have hex:=λz (hz:z∈zbQ x.Fs (F.take j))=>zN7 (B:=64) (λz hz=>⟨(gx.2.2 z hz).2.1,(ex z hz).2⟩) (λz hz=>⟨(gy z (List.mem_of_mem_take hz)).2.1,(ey z (List.mem_of_mem_take hz)).2⟩) hz
   have hfine:∀ z∈zbQ x.Fs (F.take j),zdd (zo 9) z.At:=λz hz=>by
    obtain ⟨w,hw,e⟩:=zvC hz;rw [e];rcases hw with hw | hw
    ·exact zn8 (gx.2.2 w hw).1.1 (gx.2.2 w hw).1.2.2
    ·exact zn8 (gy w (List.mem_of_mem_take hw)).1.1 (gy w (List.mem_of_mem_take hw)).1.2.2
   have hm:=zp hj;have e1:decide ((k:Int)<Int.ofNat b.length)=true:=by simp [hk]
   have e2:decide ((j:Int)<Int.ofNat F.length)=true:=by simp [hj]
   have efx:(FO.mk (F.getD j default).At (F.getD j default).Exp:Fc)=F.getD j default:=rfl;simp only [At.eta,Wy.ev_i,Wy.ev_k,Wy.ev_h,Wy.ev_bn,Wy.ev_d,zfP,Bool.and_self,cond_true,Int.toNat_natCast,hF,e1,e2,efx];rw [zbjs (d:=9) _ _ (by omega) hfine (by omega) (λz hz=>by have:=hex z hz; omega) (by have:=(gy _ hm).2; omega),cond_true,zL (by omega),key j hj])
  (λH K D=>by
   show (zqf a b i k F.length out c (zbQ x.Fs (F.take F.length))).ev H K D=_;unfold zqf;have e1:decide ((k:Int)<Int.ofNat b.length)=true:=by simp [hk]
   have e2:decide ((F.length:Int)<Int.ofNat F.length)=false:=by simp
   simp only [Wy.ev_i,Wy.ev_k,zfP,Bool.and_self,cond_true,cond_false,Int.toNat_natCast,hF,e1,e2,List.take_length]) n hn
 rw [show zeH (λ_=>true) F.length 0=true from zed.2 λ_ _ _=>rfl] at this
 simp only [List.take_zero,zQ2] at this;exact this
theorem zbjA (a b:yC) (i:Nat) (hi:i<a.length) (hal:a.length<=512) (hbl:b.length<=512) (hx:VT (a.getD i default)) (hb:∀ t∈b,VT t) (out:yC) (ho:out.length<=i*512) (hs:Srs out) (hg:∀ t∈out,GT t) (n:Nat) (hn:b.length<n):
  zOf n a b i 0 out=(true,(a,b,(i:Int),zgB out (b.map (zna (a.getD i default))))):=by
 have:=zdh (W:=zFx) (z:=default) (l:=b) (λk (o:yC)=>(a,b,(),(i:Int),(k:Int),())) (λ_ o=>(o,())) (λy o=>.inl (zjX (zna (a.getD i default) y) o)) (λo=>(a,b,(i:Int),o)) (λk o=>(o.length<=i*512+k/\Srs o)/\∀ t∈o,GT t)
  (λk o hk hI=>.inl ⟨_,rfl,⟨⟨by have:=z1O (t:=zna (a.getD i default) (b.getD k default)) o; omega,zGi hI.1.2⟩,zbbI (zWu hx (hb _ (zp hk))) hI.1.2 hI.2⟩,λH K D=>by
   show (zsk a b i k o).ev H K D=_;unfold zsk;have hy:=hb _ (zp hk);have hsz:=szTs_get' b k hk;simp only [Wy.ev_i,Wy.ev_k,Wy.ev_h,Wy.ev_bn,Wy.ev_d,tT,hk,hi,(zbcc hx.1.1 hy.1.1).2];rw [zbih a b i k hk o _ _ hx hy _ (by omega)]
   simp only [cond_true];have e:(TO.mk (zCA (a.getD i default).Cf (b.getD k default).Cf) (zbQ (a.getD i default).Fs (b.getD k default).Fs):Term)=zna (a.getD i default) (b.getD k default):=rfl;have hg:=zWu hx hy;rw [e,zbeE (d:=9) o _ (by omega) (λz hz=>(hI.2 z hz).fine) (by omega) (λz hz=>(hI.2 z hz).1) hg.1]
   simp only [cond_true];rw [zL (by omega)]⟩)
  (λo hI H K D=>by
   show (zsk a b i b.length o).ev H K D=_;unfold zsk;simp only [Wy.ev_i,Wy.ev_k,tT,Nat.lt_irrefl]) n 0 out (by omega) (by omega) (show (out.length<=i*512+0/\Srs out)/\∀ t∈out,GT t from ⟨⟨Nat.le_trans ho (Nat.le_add_right _ _),hs⟩,hg⟩)
 rw [List.drop_zero,zdi] at this
 have e:∀ (l:yC) (o:yC),l.foldl (λs t=>zjX (zna (a.getD i default) t) s) o=zgB o (l.map (zna (a.getD i default))):=λl=>by
  induction l with
  | nil=>intro o; rfl
  | cons y r ih=>intro o; rw [List.foldl_cons,ih]; rfl
 rw [e] at this;exact this
theorem zbdz (o:yC) (b:yC) (x:Term):(zgB o (b.map (zna x))).length<=o.length+b.length:=by
 have:=zFL (b.map (zna x)) o
 rwa [List.length_map] at this
theorem zbb1 (a b:yC) (ha:∀ t∈a,VT t) (hb:∀ t∈b,VT t) (hal:a.length<=512) (hbl:b.length<=512):zpF a b=(true,zqy a b):=by
 unfold zpF zRm
 have:=zdh (W:=zFu) (z:=default) (l:=a) (λi (o:yC)=>(a,b,(),(i:Int),())) (λ_ o=>(o,())) (λx o=>.inl (zgB o (b.map (zna x)))) (λo=>o) (λi o=>(o.length<=i*512/\Srs o)/\∀ t∈o,GT t)
  (λi o hi hI=>.inl ⟨_,rfl,⟨⟨by have:=zbdz o b (a.getD i default); omega,z1T _ _ hI.1.2⟩,zK2 _ _ hI.1.2 hI.2 λt ht=>by
    obtain ⟨y,hy,rfl⟩:=List.mem_map.1 ht;exact zWu (ha _ (zp hi)) (hb y hy)⟩,λH K D=>by
   show (zsa a b i o).ev H K D=_;unfold zsa;have e1:decide ((i:Int)<Int.ofNat a.length)=true:=by simp [hi]
   simp only [Wy.ev_i,Wy.ev_k,Wy.ev_h,Wy.ev_bn,Wy.ev_d,e1,cond_true];rw [zbjA a b i hi hal hbl (ha _ (zp hi)) hb o hI.1.1 hI.1.2 hI.2 _ (by omega)]
   simp only [cond_true];rw [zL (by omega)]⟩)
  (λo hI H K D=>by
   show (zsa a b a.length o).ev H K D=_;unfold zsa;have e1:decide ((a.length:Int)<Int.ofNat a.length)=false:=by simp
   simp only [Wy.ev_i,Wy.ev_k,e1,cond_false]) ((a.length+b.length+Int.toNat (0:Int)+(0:Nat)+(1:Nat))+zb6 a+zb6 b+zb6 []) 0 [] (by omega) (by omega) ⟨⟨by simp,.nil⟩,λt ht=>by cases ht⟩
 rw [List.drop_zero,zdi] at this
 have e:∀ (l:yC) (o:yC),l.foldl (λs x=>zgB s (b.map (zna x))) o=zgB o (zfy l b):=λl=>by
  induction l with
  | nil=>intro o; rfl
  | cons y r ih=>
   intro o;rw [List.foldl_cons,ih];show _=(zfy (y::r) b).foldl (λa t=>zjX t a) o
   unfold zfy;rw [List.flatMap_cons,List.foldl_append]; rfl
 rw [e] at this;have this:zPP ((a.length+b.length+Int.toNat (0:Int)+(0:Nat)+(1:Nat))+zb6 a+zb6 b+zb6 []) a b 0 []=(true,zqy a b):=this;rw [Wy.fin_bn,this]; rfl
theorem zbel (a b:yC) (ha:∀ t∈a,GT t) (hb:∀ t∈b,GT t) (hs:Srs a) (hal:a.length<=512) (hbl:b.length<=512):zGl a b=(true,zgB a b):=by
 unfold zGl z3y
 have:=zdh (W:=zPU) (z:=default) (l:=b) (λi (o:yC)=>(o,b,(i:Int),())) (λ_ o=>()) (λx o=>.inl (zjX x o)) (λo=>o) (λi o=>(o.length<=512+i/\Srs o)/\∀ t∈o,GT t)
  (λi o hi hI=>.inl ⟨_,rfl,⟨⟨by have:=z1O (t:=b.getD i default) o; omega,zGi hI.1.2⟩,zbbI (hb _ (zp hi)) hI.1.2 hI.2⟩,λH K D=>by
   show (zCG o b i).ev H K D=_;unfold zCG;simp only [Wy.ev_i,Wy.ev_k,Wy.ev_h,Wy.ev_bn,Wy.ev_d,tT,hi];rw [zbeE (d:=9) o _ (by omega) (λz hz=>(hI.2 z hz).fine) (by omega) (λz hz=>(hI.2 z hz).1) (hb _ (zp hi)).1,cond_true,zL (by omega)]⟩)
  (λo hI H K D=>by
   show (zCG o b b.length).ev H K D=_;unfold zCG;simp only [Wy.ev_i,Wy.ev_k,tT,Nat.lt_irrefl]) (a.length+b.length+Int.toNat (0:Int)+(1:Nat)) 0 a (by omega) (by omega) ⟨⟨by omega,hs⟩,ha⟩
 rw [List.drop_zero,zdi] at this;have this:zZg (a.length+b.length+Int.toNat (0:Int)+(1:Nat)) a b 0=(true,zgB a b):=this;rw [Wy.fin_bn,this]; rfl
def okA (a:yC):Prop:=(zo 12 a/\zP a<=4611686018427387904)/\zgX a/\a.length<=zbl
def opR (ok:Bool) (r:yC×Int):yC×Int:=bif ok then r else ([],1)
def zFk (a b:yC):yC×Int:=opR (zV a&&zV b) (zoK (zgB a b))
def zEk (a b:yC):yC×Int:=opR (zV a&&zV b) (zoK (zqy a b))
def zbfo (a b:yC):At:=⟨1,⟨0,0⟩,[a,b],0,[],0,⟨0,0,ByteArray.mk #[]⟩⟩
def zYS (a:yC):At:=⟨2,⟨0,0⟩,[a],0,[],0,⟨0,0,ByteArray.mk #[]⟩⟩
def zbfH (a:yC):At:=⟨3,⟨0,0⟩,[a],0,[],0,⟨0,0,ByteArray.mk #[]⟩⟩
def zOo (a b:yC):yC×Int:=opR (zV a&&zV b) (if b=[] then (a,0) else if a=[]\/a=b then ([],0) else zoK (zcy (zbfo a b)))
def zN6 (a:yC):yC×Int:=opR (zV a) (if a=[]\/isU a=true then (a,0) else if isC a=true then ([⟨1,[]⟩],0) else zoK (zcy (zYS a)))
def zOw (a:yC):yC×Int:=opR (zV a) (if a=[] then ([⟨1,[]⟩],0) else if zvI a=true then ([],0) else zoK (zcy (zbfH a)))
theorem okA.valid {a:yC} (h:okA a):zca a=(true,zV a):=zbad h.1.1 (by omega) h.1.2
theorem okA.rvalid {a:yC} (h:okA a):zfa a=(true,zV a):=z68 h.1.1 (by omega) h.1.2
theorem zbkV {a b:yC} (ha:okA a) (hb:okA b):zwX a b=(true,zFk a b)/\zKY a b=(true,zFk a b):=by
 unfold zwX zPI zKY zRT zFk;simp only [Wy.fin_bn,Wy.fin_i,Wy.fin_k,ha.valid,hb.valid,ha.rvalid,hb.rvalid,cond_true];cases va:zV a with
 | false=>first | exact ⟨trivial,trivial⟩ | exact ⟨rfl,rfl⟩ | exact ⟨trivial,rfl⟩ | exact ⟨rfl,trivial⟩
 | true=>
  cases vb:zV b with
  | false=>first | exact ⟨trivial,trivial⟩ | exact ⟨rfl,rfl⟩ | exact ⟨trivial,rfl⟩ | exact ⟨rfl,trivial⟩
  | true=>
   obtain ⟨sa,la,ta⟩:=znD va ha.2.1;obtain ⟨sb,lb,tb⟩:=znD vb hb.2.1;have ga:∀ t∈a,GT t:=λt ht=>(ta t ht).1
   have gb:∀ t∈b,GT t:=λt ht=>(tb t ht).1
   have hc:=zbhF [a,b] (by simp) (λl hl=>by
    simp only [qd,List.not_mem_nil,or_false] at hl;rcases hl with rfl | rfl <;>omega)
   have e:[a,b].flatten=a++b:=by simp
   have hcol:=z7f (a++b) (by simp; omega) λt ht=>by
    rcases List.mem_append.1 ht with ht | ht
    ·exact ga t ht
    ·exact gb t ht
   rw [e] at hc;rw [zbjr a b sa] at hcol;have hsl:(zgB a b).length<=1000000:=by have:=zFL b a; omega
   obtain ⟨f1,f2⟩:=z0r hsl (zK2 b a sa ga gb);simp only [Bool.not_true,cond_false,Bool.and_self,hc,hcol,zDu f1 (by omega:10<=100) f2,zbel a b ga gb sa la lb,zCq f1 (by omega:10<=100) f2,cond_true]
   first | exact ⟨trivial,trivial⟩ | exact ⟨rfl,rfl⟩ | exact ⟨trivial,rfl⟩ | exact ⟨rfl,trivial⟩
theorem zbkR {a b:yC} (ha:okA a) (hb:okA b):zxA a b=(true,zEk a b)/\zLk a b=(true,zEk a b):=by
 unfold zxA zPf zLk zRV zEk;simp only [Wy.fin_bn,Wy.fin_i,Wy.fin_k,ha.valid,hb.valid,ha.rvalid,hb.rvalid,cond_true];cases va:zV a with
 | false=>first | exact ⟨trivial,trivial⟩ | exact ⟨rfl,rfl⟩ | exact ⟨trivial,rfl⟩ | exact ⟨rfl,trivial⟩
 | true=>
  cases vb:zV b with
  | false=>first | exact ⟨trivial,trivial⟩ | exact ⟨rfl,rfl⟩ | exact ⟨trivial,rfl⟩ | exact ⟨rfl,trivial⟩
  | true=>
   obtain ⟨sa,la,ta⟩:=znD va ha.2.1;obtain ⟨sb,lb,tb⟩:=znD vb hb.2.1;have hm:=zblA a b ta tb la lb (b.length+a.length+(Int.ofNat a.length).toNat +Int.toNat (0:Int)+(0:Nat)+(1:Nat)) (by omega)
   have hm:zEg (b.length+a.length+(Int.ofNat a.length).toNat +Int.toNat (0:Int)+(0:Nat)+(1:Nat)) b a (Int.ofNat a.length) 0 []=_:=hm;have hpl:(zfy a b).length<=1000000:=by rw [zRu]; have:=Nat.mul_le_mul la lb; omega
   have hcol:=z7f (zfy a b) hpl (zWb ta tb);have hsl:(zqy a b).length<=1000000:=by have:=zFL (zfy a b) []; simp at this; exact Nat.le_trans this hpl
   obtain ⟨f1,f2⟩:=z0r hsl (zK2 (zfy a b) [] .nil (λt ht=>by cases ht) (zWb ta tb))
   have f1:zo 10 (zqy a b):=f1;have f2:zP (zqy a b)<=4611686018427387904:=f2;have hcol:ziW (zfy a b)=(true,zqy a b):=hcol;simp only [Bool.not_true,cond_false,Bool.and_self,hm,hcol,zDu f1 (by omega:10<=100) f2,zbb1 a b ta tb la lb,zCq f1 (by omega:10<=100) f2,cond_true]
   first | exact ⟨trivial,trivial⟩ | exact ⟨rfl,rfl⟩ | exact ⟨trivial,rfl⟩ | exact ⟨rfl,trivial⟩
theorem zFm {l:yA} {k:Int} (hl:l.length<=2) (h:∀ a∈l,zV a=true):zo 10 (zcy ⟨k,⟨0,0⟩,l,0,[],0,⟨0,0,ByteArray.mk #[]⟩⟩)/\zP (zcy ⟨k,⟨0,0⟩,l,0,[],0,⟨0,0,ByteArray.mk #[]⟩⟩)<=4611686018427387904:=by
 constructor
 ·exact zRE ⟨⟨by simp only; omega,by simp,by show (ByteArray.mk #[]).size<=_; decide⟩,λa ha=>(ze1 (h a ha)).1,λw hw=>(by cases hw)⟩
 ·rw [z4V,zhW]
  have hb:∀ l:yA,(∀ a∈l,zV a=true)->zfN l<=l.length*4096:=λl=>by
   induction l with
   | nil=>intro _; rw [zhn]; simp
   | cons a r ih=>
    intro h;have h1:=(ze1 (h a (by simp))).2.1
    have h2:=ih λb hb=>h b (by simp [hb])
    rw [zfm,qf,Nat.add_mul]; omega
  have:=hb l h;show 2+(zfN l+zdy [])<=_;rw [zgk];have:=Nat.mul_le_mul hl (Nat.le_refl 4096);omega
theorem zNX (a:yC):(Int.ofNat a.length==(0:Int))=decide (a=[]):=by
 rw [show (Int.ofNat a.length==(0:Int))=(a.length==0) from zzr _ 0,z5t]
 congr 1;rw [List.length_eq_zero_iff]
theorem zbif {a b:yC} (ha:okA a) (hb:okA b):zsE a b=(true,zOo a b)/\zEE a b=(true,zOo a b):=by
 unfold zsE zKS zEE zLS zOo;simp only [Wy.fin_bn,Wy.fin_i,Wy.fin_k,ha.valid,hb.valid,ha.rvalid,hb.rvalid,cond_true];cases va:zV a with
 | false=>first | exact ⟨trivial,trivial⟩ | exact ⟨rfl,rfl⟩ | exact ⟨trivial,rfl⟩ | exact ⟨rfl,trivial⟩
 | true=>
  cases vb:zV b with
  | false=>first | exact ⟨trivial,trivial⟩ | exact ⟨rfl,rfl⟩ | exact ⟨trivial,rfl⟩ | exact ⟨rfl,trivial⟩
  | true=>
   obtain ⟨f1,f2⟩:=zFm (l:=[a,b]) (k:=1) (by simp) (λx hx=>by
    simp only [qd,List.not_mem_nil,or_false] at hx;rcases hx with rfl | rfl
    ·exact va
    ·exact vb)
   simp only [Bool.not_true,cond_false,Bool.and_self,zNX,zKW ha.1.1 (by omega:12<=100),zsO ha.1.1 (by omega:12<=100),zAl ha.1.1 (by omega:12<=100),zK7,zF3,zDu f1 (by omega:10<=100) f2,zCq f1 (by omega:10<=100) f2,cond_true,opR]
   by_cases hb0:b=[]
   ·simp only [hb0,decide_true,cond_true,if_true]; exact ⟨trivial,trivial⟩
   ·by_cases ha0:a=[]
    ·simp only [hb0,ha0,decide_true,decide_false,cond_true,cond_false,if_true,if_false,true_or]; exact ⟨trivial,trivial⟩
    ·by_cases hab:a=b
     ·simp only [hb0,ha0,hab,decide_true,decide_false,cond_true,cond_false,if_true,if_false,or_true]; exact ⟨trivial,trivial⟩
     ·simp only [hb0,ha0,hab,decide_false,cond_false,if_false,or_self]; first | exact ⟨trivial,trivial⟩ | exact ⟨rfl,rfl⟩ | exact ⟨trivial,rfl⟩ | exact ⟨rfl,trivial⟩
theorem zbh3 {a:yC} (ha:okA a):zrS a=(true,zN6 a)/\zvT a=(true,zN6 a):=by
 unfold zrS zKr zvT zLQ zN6;simp only [Wy.fin_bn,Wy.fin_i,Wy.fin_k,ha.valid,ha.rvalid,cond_true];cases va:zV a with
 | false=>first | exact ⟨trivial,trivial⟩ | exact ⟨rfl,rfl⟩ | exact ⟨trivial,rfl⟩ | exact ⟨rfl,trivial⟩
 | true=>
  obtain ⟨f1,f2⟩:=zFm (l:=[a]) (k:=2) (by simp) (λx hx=>by rw [qh] at hx; subst hx; exact va)
  have hla:a.length<=1000000000:=by have:=(ze1 va).2.2; omega
  have hbu:isB a=isU a:=zOX va;simp only [Bool.not_true,cond_false,zNX,zKW ha.1.1 (by omega:12<=100),z9S,zW0,zGZ,zp5 a hla,zK7,zF3,zDu f1 (by omega:10<=100) f2,zCq f1 (by omega:10<=100) f2,cond_true,opR,hbu]
  rw [show zoK (zcy ⟨2,⟨0,0⟩,[a],0,[],0,⟨0,0,ByteArray.mk #[]⟩⟩)=zoK (zcy (zYS a)) from rfl]
  clear f1 f2;generalize zoK (zcy (zYS a))=R;by_cases h0:a=[]
  ·simp only [h0,decide_true,cond_true,if_true,true_or]; exact ⟨trivial,trivial⟩
  ·cases hu:isU a with
   | true=>simp only [h0,decide_false,cond_false,cond_true,if_true,or_true]; exact ⟨trivial,trivial⟩
   | false=>
    simp only [h0,decide_false,cond_false,if_false,or_self,Bool.false_eq_true]
    match a,h0 with
    | [t],_=>
     have e1:zvI [t]=(t.Fs.length==0):=by simp [zvI]
     have e2:isC [t]=(t.Fs.length==0):=rfl;rw [e1,e2];cases (t.Fs.length==0) with
     | true=>simp only [cond_true,if_true]; first | exact ⟨trivial,trivial⟩ | exact ⟨rfl,rfl⟩ | exact ⟨trivial,rfl⟩ | exact ⟨rfl,trivial⟩
     | false=>simp only [cond_false,cond_true,Bool.false_eq_true,if_false]; first | exact ⟨trivial,trivial⟩ | exact ⟨rfl,rfl⟩ | exact ⟨trivial,rfl⟩ | exact ⟨rfl,trivial⟩
    | t::s::r,_=>
     have e2:isC (t::s::r)=false:=rfl;simp only [zPC,e2,cond_false,cond_true,Bool.false_eq_true,if_false]
     first | exact ⟨trivial,trivial⟩ | exact ⟨rfl,rfl⟩ | exact ⟨trivial,rfl⟩ | exact ⟨rfl,trivial⟩
theorem zbgw {a:yC} (ha:okA a):zp4 a=(true,zOw a)/\zDb a=(true,zOw a):=by
 unfold zp4 zIn zDb zI6 zOw;simp only [Wy.fin_bn,Wy.fin_i,Wy.fin_k,ha.valid,ha.rvalid,cond_true];cases va:zV a with
 | false=>first | exact ⟨trivial,trivial⟩ | exact ⟨rfl,rfl⟩ | exact ⟨trivial,rfl⟩ | exact ⟨rfl,trivial⟩
 | true=>
  obtain ⟨f1,f2⟩:=zFm (l:=[a]) (k:=3) (by simp) (λx hx=>by rw [qh] at hx; subst hx; exact va)
  have hla:a.length<=1000000000:=by have:=(ze1 va).2.2; omega
  simp only [Bool.not_true,cond_false,zNX,zUC a hla,zp5 a hla,zK7,zF3,zDu f1 (by omega:10<=100) f2,zCq f1 (by omega:10<=100) f2,cond_true,opR]
  by_cases h0:a=[]
  ·simp only [h0,decide_true,cond_true,if_true]; first | exact ⟨trivial,trivial⟩ | exact ⟨rfl,rfl⟩ | exact ⟨trivial,rfl⟩ | exact ⟨rfl,trivial⟩
  ·cases hu:zvI a with
   | true=>simp only [h0,decide_false,cond_false,cond_true,if_true,if_false]; exact ⟨trivial,trivial⟩
   | false=>simp only [h0,decide_false,cond_false,if_false,Bool.false_eq_true]; first | exact ⟨trivial,trivial⟩ | exact ⟨rfl,rfl⟩ | exact ⟨trivial,rfl⟩ | exact ⟨rfl,trivial⟩
theorem zZz {n:Int} (h:rng n):wf3 n:=by
 show (Lit.int .i64 n).wf=true;have:IntKind.i64.min<=n/\n<=IntKind.i64.max:=⟨h.1,h.2⟩
 simpa [Lit.wf] using this
theorem z0C {t:Term} (hc:rng t.Cf) (hf:∀ f∈t.Fs,zgN f.At/\rng f.Exp) (hl:t.Fs.length<=1000000):zEJ t:=by
 obtain ⟨c,fs⟩:=t;unfold zEJ;refine ⟨zZz hc,zPG fs λf h=> ?_,by have:zbl=140737488351232:=rfl; simp only at hl; omega⟩
 obtain ⟨x,e⟩:=f;unfold zzs;exact ⟨(hf _ h).1,zZz (hf _ h).2⟩
def okR (r:yC×Int):Prop:=okA r.1/\(r.2=0\/r.1=[])
theorem zkp:okA []:=⟨⟨zbh4 11,by rw [zuw]; omega⟩,by unfold zgX; trivial,by simp⟩
theorem zNW {a:yC} (h:okA a):okR (zoK a):=by
 unfold zoK;cases zgb a with
 | true=>exact ⟨h,.inl rfl⟩
 | false=>exact ⟨zkp,.inr rfl⟩
theorem z03 {ok:Bool} {r:yC×Int} (h:ok=true->okR r):okR (opR ok r):=by
 unfold opR;cases ok with
 | true=>exact h rfl
 | false=>exact ⟨zkp,.inr rfl⟩
theorem z1I {l:yC} (hl:l.length<=1000000) (h:∀ t∈l,GT t):okA l:=by
 obtain ⟨h1,h2⟩:=z0r hl h;refine ⟨⟨h1.mono (by omega),h2⟩,zIV l λt ht=> ?_,by have:zbl=140737488351232:=rfl; omega⟩
 have hg:=h t ht;exact z0C ⟨by have:=hg.1.1; omega,by have:=hg.1.2; omega⟩ (λf hf=>⟨(hg.2.2 f hf).1.2.1,(hg.2.2 f hf).gF.2.2⟩) (by have:=hg.2.1; omega)
theorem z8H {a b:yC} (ha:okA a) (hb:okA b):okR (zFk a b):=z03 λhv=>by
 rw [qc] at hv;obtain ⟨sa,la,ta⟩:=znD hv.1 ha.2.1;obtain ⟨sb,lb,tb⟩:=znD hv.2 hb.2.1;exact zNW (z1I (by have:=zFL b a; omega) (zK2 b a sa (λt ht=>(ta t ht).1) λt ht=>(tb t ht).1))
theorem z8R {a b:yC} (ha:okA a) (hb:okA b):okR (zEk a b):=z03 λhv=>by
 rw [qc] at hv;obtain ⟨sa,la,ta⟩:=znD hv.1 ha.2.1;obtain ⟨sb,lb,tb⟩:=znD hv.2 hb.2.1;have hpl:(zfy a b).length<=1000000:=by rw [zRu]; have:=Nat.mul_le_mul la lb; omega
 exact zNW (z1I (by have:=zFL (zfy a b) []; simp at this; exact Nat.le_trans this hpl) (zK2 (zfy a b) [] .nil (λt ht=>by cases ht) (zWb ta tb)))
theorem zbcZ {x:At} (hf:zdd (zo 9) x) (hs:zP (zcy x)<=4611686018427387904) (hw:zgN x):okA (zcy x):=by
 refine ⟨⟨(zRE hf).mono (by omega),hs⟩,zIV _ λt ht=> ?_,by simp [zcy,zbl]⟩
 simp only [zcy,qh] at ht;subst ht;refine z0C ⟨by simp,by simp⟩ (λf hf=> ?_) (by simp)
 simp only [qh] at hf;subst hf;exact ⟨hw,⟨by simp,by simp⟩⟩
theorem z05 {n:Int} (h: -1000<=n/\n<=1000):rng n:=⟨by omega,by omega⟩
theorem zrH:wf3 0:=zZz (z05 (by omega))
theorem z0h {l:yA} {k:Int} (hk:0<=k/\k<=4) (hl:l.length<=2) (h:∀ a∈l,zV a=true) (hw:∀ a∈l,okA a):okA (zcy ⟨k,⟨0,0⟩,l,0,[],0,⟨0,0,ByteArray.mk #[]⟩⟩):=by
 refine zbcZ ⟨⟨by simp only; omega,by simp,by show (ByteArray.mk #[]).size<=_; decide⟩,λa ha=>(ze1 (h a ha)).1,λw hw=>(by cases hw)⟩ (zFm hl h).2 ?_
 unfold zgN;have hr:zbl=140737488351232:=rfl;refine ⟨zZz (z05 (by omega)),⟨zrH,zrH⟩,⟨z0a l λa ha=>⟨(hw a ha).2.1,(hw a ha).2.2⟩,by omega⟩,zrH,⟨by unfold zug; trivial,by simp⟩,zrH,⟨zrH,zrH, ?_⟩⟩
 show (ByteArray.mk #[]).size<=zbl;rw [hr]; decide
theorem z9h {a b:yC} (ha:okA a) (hb:okA b):okR (zOo a b):=z03 λhv=>by
 rw [qc] at hv;split
 ·exact ⟨ha,.inl rfl⟩
 ·split
  ·exact ⟨zkp,.inl rfl⟩
  ·refine zNW (z0h (by omega) (by simp) (λx hx=> ?_) λx hx=> ?_)
   ·simp only [qd,List.not_mem_nil,or_false] at hx;rcases hx with rfl | rfl
    ·exact hv.1
    ·exact hv.2
   ·simp only [qd,List.not_mem_nil,or_false] at hx;rcases hx with rfl | rfl
    ·exact ha
    ·exact hb
theorem z10 (c:Int) (hc:1<=c/\c<=1152921504606846976):okA [⟨c,[]⟩]:=z1I (by simp) λt ht=>by
 rw [qh] at ht; subst ht;exact ⟨hc,by simp,λf hf=>by cases hf⟩
theorem z8f {a:yC} (ha:okA a):okR (zN6 a):=z03 λhv=>by
 split
 ·exact ⟨ha,.inl rfl⟩
 ·split
  ·exact ⟨z10 1 (by omega),.inl rfl⟩
  ·exact zNW (z0h (by omega) (by simp) (λx hx=>by rw [qh] at hx; subst hx; exact hv) λx hx=>by rw [qh] at hx; subst hx; exact ha)
theorem z9f {a:yC} (ha:okA a):okR (zOw a):=z03 λhv=>by
 split
 ·exact ⟨z10 1 (by omega),.inl rfl⟩
 ·split
  ·exact ⟨zkp,.inl rfl⟩
  ·exact zNW (z0h (by omega) (by simp) (λx hx=>by rw [qh] at hx; subst hx; exact hv) λx hx=>by rw [qh] at hx; subst hx; exact ha)
def zvk (n:Int):yC:=if n<1 then [] else [⟨if 1152921504606846976<n then 1152921504606846976 else n,[]⟩]
def zvv (id:RowID):yC:=bif zDq id then zcy ⟨0,id,[],0,[],0,⟨0,0,ByteArray.mk #[]⟩⟩ else []
theorem zbhe (n:Int):zsy n=(true,zvk n)/\zvR n=(true,zvk n):=by
 unfold zsy zKD zvR zMg zvk;by_cases h:n<1
 ·simp only [Wy.fin_i,Wy.fin_k,h,decide_true,cond_true,if_true]; exact ⟨trivial,trivial⟩
 ·simp only [Wy.fin_i,Wy.fin_k,h,decide_false,cond_false,if_false]; exact ⟨trivial,trivial⟩
theorem zbgC (id:RowID):zxz id=(true,zvv id)/\zGe id=(true,zvv id):=by
 unfold zxz zO6 zGe z3x zvv zDq;simp only [Wy.fin_i,Wy.fin_bn,Wy.fin_k,zGA,zK7,zF3,cond_true];unfold zDq
 have e1:decide (id.Table<1)= !decide (id.Table≥1):=by
  by_cases h:id.Table<1
  ·have:¬ id.Table≥1:=by omega
   simp only [h,this,decide_true,decide_false,Bool.not_false]
  ·have:id.Table≥1:=by omega
   simp only [h,this,decide_true,decide_false,Bool.not_true]
 have e2:decide (id.Seq<1)= !decide (id.Seq≥1):=by
  by_cases h:id.Seq<1
  ·have:¬ id.Seq≥1:=by omega
   simp only [h,this,decide_true,decide_false,Bool.not_false]
  ·have:id.Seq≥1:=by omega
   simp only [h,this,decide_true,decide_false,Bool.not_true]
 rw [e1,e2];cases decide (id.Table≥1) <;>cases decide (id.Seq≥1) <;>exact ⟨rfl,rfl⟩
theorem zbcM (n:Int):okA (zvk n):=by
 unfold zvk;split
 ·exact zkp
 ·refine z10 _ ?_;split <;>omega
theorem zbkX {id:RowID} (h:zZh id):okA (zvv id):=by
 unfold zvv;cases hr:zDq id with
 | false=>exact zkp
 | true=>
  refine zbcZ ⟨⟨by simp,by simp,by show (ByteArray.mk #[]).size<=_; decide⟩,λa ha=>(by cases ha),λw hw=>(by cases hw)⟩ (by rw [z4V,zhW,zhn,zgk]; omega) ?_
  unfold zgN;refine ⟨zrH,h,⟨by unfold zzV; trivial,by simp⟩,zrH,⟨by unfold zug; trivial,by simp⟩,zrH,⟨zrH,zrH, ?_⟩⟩
  show (ByteArray.mk #[]).size<=zbl;have hr:zbl=140737488351232:=rfl;rw [hr]; decide
theorem zbjp {a:yC} {n:Nat} (hn:n<=1000) (h:zo 12 a/\ze0 a<=n) (hw:zbbF a):okA a:=⟨⟨h.1,by have:=zNa a; omega⟩,hw.1,hw.2⟩
def MF (l:yD):Prop:=Srf l/\∀ f∈l,eOK f/\1<=f.Exp
theorem MF.tail {f:Fc} {l:yD} (h:MF (f::l)):MF l:=⟨(qi.1 h.1).2,λg hg=>h.2 g (by simp [hg])⟩
theorem MF.nil:MF []:=⟨List.Pairwise.nil,λf hf=>by cases hf⟩
theorem cF_self' {x y:Fc} (h:x.At=y.At):cF x y=0:=by unfold cF; rw [h]; exact zFP _
theorem MF.ne {f:Fc} {l:yD} (h:MF (f::l)):∀ g∈l,g.At≠f.At:=λg hg e=>by
 have:=(qi.1 h.1).1 g hg;rw [cF_self' e.symm] at this; omega
theorem zbib {a b:yD}:Srf a->Srf b->Srf (zbQ a b):=by
 induction a,b using zbQ.induct with
 | case1 b=>intro _ hb; rw [zbQ]; exact hb
 | case2 x a=>intro ha _; rw [zbQ]; exact ha
 | case3 x a y b h ih=>
  intro ha hb;have ca:=qi.1 ha;rw [zbQ,if_pos h];refine qi.2 ⟨λz hz=> ?_,ih ca.2 hb⟩
  obtain ⟨w,hw,e⟩:=zvC hz;have:cF x z=cF x w:=by unfold cF; rw [e]
  rw [this];rcases hw with hw | hw
  ·exact ca.1 w hw
  ·rcases qd.1 hw with rfl | hw
   ·exact h
   ·exact zJn h ((qi.1 hb).1 w hw)
 | case4 x a y b h h2 ih=>
  intro ha hb;have cb:=qi.1 hb;rw [zbQ,if_neg h,if_pos h2];have h3:cF y x<0:=by rw [zbjS x y]; omega
  refine qi.2 ⟨λz hz=> ?_,ih ha cb.2⟩
  obtain ⟨w,hw,e⟩:=zvC hz;have:cF y z=cF y w:=by unfold cF; rw [e]
  rw [this];rcases hw with hw | hw
  ·rcases qd.1 hw with rfl | hw
   ·exact h3
   ·exact zJn h3 ((qi.1 ha).1 w hw)
  ·exact cb.1 w hw
 | case5 x a y b h h2 ih=>
  intro ha hb;have ca:=qi.1 ha;have cb:=qi.1 hb;have h0:x.At=y.At:=zbd4 (by omega)
  rw [zbQ,if_neg h,if_neg h2];have hA:(if x.At.Kind=3\/x.At.Kind=4 then x else ⟨x.At,x.Exp+y.Exp⟩:Fc).At=x.At:=by split <;>rfl
  refine qi.2 ⟨λz hz=> ?_,ih ca.2 cb.2⟩
  obtain ⟨w,hw,e⟩:=zvC hz;have:cF (if x.At.Kind=3\/x.At.Kind=4 then x else ⟨x.At,x.Exp+y.Exp⟩:Fc) z=cF x w:=by unfold cF; rw [e,hA]
  rw [this];rcases hw with hw | hw
  ·exact ca.1 w hw
  ·have:cF x w=cF y w:=by unfold cF; rw [h0]
   rw [this]; exact cb.1 w hw
theorem zbho {a b:yD}:(∀ f∈a,eOK f/\1<=f.Exp)->(∀ f∈b,eOK f/\1<=f.Exp)->∀ f∈zbQ a b,eOK f/\1<=f.Exp:=by
 induction a,b using zbQ.induct with
 | case1 b=>intro _ hb; rw [zbQ]; exact hb
 | case2 x a=>intro ha _; rw [zbQ]; exact ha
 | case3 x a y b h ih=>
  intro ha hb f hf;rw [zbQ,if_pos h] at hf;rcases qd.1 hf with rfl | hf
  ·exact ha _ (by simp)
  ·exact ih (λg hg=>ha g (by simp [hg])) hb f hf
 | case4 x a y b h h2 ih=>
  intro ha hb f hf;rw [zbQ,if_neg h,if_pos h2] at hf;rcases qd.1 hf with rfl | hf
  ·exact hb _ (by simp)
  ·exact ih ha (λg hg=>hb g (by simp [hg])) f hf
 | case5 x a y b h h2 ih=>
  intro ha hb f hf;rw [zbQ,if_neg h,if_neg h2] at hf;rcases qd.1 hf with rfl | hf
  ·have h1:=ha x (by simp)
   have h2:=hb y (by simp)
   split
   ·exact h1
   ·rename_i hk;exact ⟨⟨h1.1.1,λh=>absurd h hk⟩,by show 1<=x.Exp+y.Exp; omega⟩
  ·exact ih (λg hg=>ha g (by simp [hg])) (λg hg=>hb g (by simp [hg])) f hf
theorem zbjL {a b:yD} (ha:MF a) (hb:MF b):MF (zbQ a b):=⟨zbib ha.1 hb.1,zbho ha.2 hb.2⟩
def EqS (n m:Nat):Prop:=n=m\/(1152921504606846976<=n/\1152921504606846976<=m)
theorem EqS.refl (n:Nat):EqS n n:=.inl rfl
theorem EqS.symm {n m:Nat} (h:EqS n m):EqS m n:=by unfold EqS at *; omega
theorem EqS.trans {n m k:Nat} (h:EqS n m) (h':EqS m k):EqS n k:=by unfold EqS at *; omega
theorem EqS.add {n m n' m':Nat} (h:EqS n n') (h':EqS m m'):EqS (n+m) (n'+m'):=by unfold EqS at *; omega
theorem EqS.mul1 {n n':Nat} (k:Nat) (h:EqS n n'):EqS (n*k) (n'*k):=by
 rcases h with rfl | ⟨h1,h2⟩
 ·exact .refl _
 ·rcases Nat.eq_zero_or_pos k with rfl | hk
  ·exact .inl (by simp)
  ·exact .inr ⟨Nat.le_trans h1 (Nat.le_mul_of_pos_right n hk),Nat.le_trans h2 (Nat.le_mul_of_pos_right n' hk)⟩
theorem EqS.mul {n m n' m':Nat} (h:EqS n n') (h':EqS m m'):EqS (n*m) (n'*m'):=by
 refine (h.mul1 m).trans ?_;rw [Nat.mul_comm n' m,Nat.mul_comm n' m'];exact h'.mul1 n'
def PA (a:yC):Prop:=Srs a/\∀ t∈a,cOK t/\MF t.Fs
theorem PA.c {a:yC} (h:PA a):∀ t∈a,cOK t:=λt ht=>(h.2 t ht).1
theorem zbk1 {a b:yC} (ha:PA a) (hb:PA b):PA (zgB a b):=⟨z1T _ _ ha.1,λt ht=>⟨zbiS b ha.c hb.c t ht,by
 obtain ⟨x,hx,e⟩:=zUB b a ha.1 ht;rw [e];rcases hx with hx | hx
 ·exact (ha.2 x hx).2
 ·exact (hb.2 x hx).2⟩⟩
theorem PA.nil:PA []:=⟨List.Pairwise.nil,λt ht=>by cases ht⟩
theorem zbfA {c:Int} (h:c<=1152921504606846976):zCA c 1=c:=by
 unfold zCA;rw [if_neg (by rw [Int.tdiv_one]; omega)]; omega
end Go.Proofs.YtljlfiomikifjaaGreatDoor
end
