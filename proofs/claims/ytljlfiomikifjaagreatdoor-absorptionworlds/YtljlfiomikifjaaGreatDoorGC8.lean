/- Texts of this claim, joined (the program, its functions in plain words, and what they compute). -/
import Derived.Test.YtljlfiomikifjaaGreatDoorGC7
set_option autoImplicit false
set_option linter.unusedVariables false
set_option linter.unusedSectionVars false
set_option linter.unusedSimpArgs false
set_option maxRecDepth 1000000
set_option maxHeartbeats 0
/- The program's comparison of annotations is the order of trees. -/
noncomputable section
namespace Go.Proofs.YtljlfiomikifjaaGreatDoor
open Go Go.Ab
theorem ztU (x y:Int):zdb x y=(true,zdJ x y):=by
 unfold zdb zLL zta zQX zdJ;by_cases h1:x<y
 ·simp [h1,Wy.fin_i,Wy.fin_k]
 ·by_cases h2:y<x <;>simp [h1,h2,Wy.fin_i,Wy.fin_k]
theorem zFG (x y:Int):zjn x y=(true,zdJ x y):=by
 unfold zjn zGP znV zLN zdJ;by_cases h1:x<y
 ·simp [h1,Wy.fin_i,Wy.fin_k]
 ·by_cases h2:y<x <;>simp [h1,h2,Wy.fin_i,Wy.fin_k]
def ztb:List Int->Int
 | []=>0
 | x::r=>if x=0 then ztb r else x
theorem zbg7 (l:List Int) (hl:l.length<=1000000):∀ (n i:Nat),l.length<i+n->i<=l.length->∃ r,zKY n 0 l l.length i=(true,r)/\(r=.inl (ztb (l.drop i))\/(r=.inr 0/\ztb (l.drop i)=0))
 | 0,i,h,h2=>by omega
 | n+1,i,h,h2=>by
  show ∃ r,(zKt 0 l l.length i).ev (λx y=>zKY n x.1 x.2.1 x.2.2.1 x.2.2.2.1) (λr=>(true,r)) (false,.inl default)=(true,r)/\_
  unfold zKt;by_cases hi:i<l.length
  ·simp only [Wy.ev_i,Wy.ev_k,Wy.ev_h,Int.ofNat_eq_natCast,zcd,zbc,decide_true,decide_false,Bool.and_self,Bool.true_and,Bool.and_true,cond_true,cond_false,Int.toNat_natCast,Bool.not_true,Bool.not_false,hi];obtain ⟨r,h1,h3⟩:=zbg7 l hl n (i+1) (by omega) (by omega)
   rw [zY hi,zJ (by omega),h1]
   generalize l.getD i default=x;by_cases hx:x=0
   ·have e:(x != 0)=false:=by simp [hx]
    simp only [e,cond_false,ztb,hx,if_true];exact ⟨r,rfl,h3⟩
   ·have e:(x != 0)=true:=by simp [hx]
    simp only [e,cond_true,ztb,hx,if_false];exact ⟨_,rfl,.inl rfl⟩
  ·simp only [Wy.ev_i,Wy.ev_k,Wy.ev_h,Int.ofNat_eq_natCast,zcd,zbc,decide_true,decide_false,Bool.and_self,Bool.true_and,Bool.and_true,cond_true,cond_false,Int.toNat_natCast,Bool.not_true,Bool.not_false,hi,zce hi];exact ⟨_,rfl,.inr ⟨rfl,rfl⟩⟩
theorem ztf (l:List Int) (hl:l.length<=1000000):zlK l=(true,ztb l):=by
 unfold zlK z2b;obtain ⟨r,h1,h2⟩:=zbg7 l hl (Int.toNat 0+l.length+(Int.ofNat l.length).toNat +Int.toNat 0+1) 0 (by simp; omega) (by omega)
 rw [show ((0:Nat):Int)=(0:Int) from rfl] at h1
 rw [Wy.fin_bn,show Int.ofNat l.length=(l.length:Int) from rfl] at *
 rw [h1];rw [List.drop_zero] at h2;rcases h2 with rfl | ⟨rfl,h2⟩
 ·rfl
 ·rw [h2]; rfl
section
variable {α:Type}
def zzf (c:α->α->Int):List α->List α->Int
 | [],[]=>0
 | [],_::_=> -1
 | _::_,[]=>1
 | x::a,y::b=>if c x y=0 then zzf c a b else c x y
theorem zRm (e:α->TT) {c:α->α->Int}:∀ (a b:List α),(∀ x∈a,∀ y∈b,c x y=zbq (e x) (e y))->zzf c a b=zbV (a.map e) (b.map e)
 | [],[],_=>by simp only [zzf,List.map,zbV]
 | [],_::_,_=>by simp only [zzf,List.map,zbV]
 | _::_,[],_=>by simp only [zzf,List.map,zbV]
 | x::a,y::b,h=>by
  simp only [zzf,List.map,zbV];rw [h x (by simp) y (by simp),zRm e a b λx hx y hy=>h x (by simp [hx]) y (by simp [hy])]
variable [Inhabited α]
def zbef (g:α->α->Bool×Int) (s1:List α) (s2:List α) (t11:List α) (t12:Int) (t13:Int):Wy (List α×List α×Unit×List α×Int×Int×Unit) Unit (Int⊕(List α×List α)):=.i (decide (t13<t12)) (.i (decide ((0:Int)<=t13)&&decide (t13<Int.ofNat t11.length)) (.i (decide (t13≥Int.ofNat s2.length)) (.k (.inl (1:Int))) (.i (decide ((0:Int)<=t13)&&decide (t13<Int.ofNat s2.length)) (.bn (g (t11.getD t13.toNat default) (s2.getD t13.toNat default)) λr0=>.i (r0 != (0:Int)) (.k (.inl (r0))) (.h (s1,s2,(),t11,t12,(IntKind.i64.wrap (t13+(1:Int))),()) ())) .d)) .d) (.k (.inr (s1,s2)))
def zbis (g:α->α->Bool×Int) (x:List α×List α×Unit×List α×Int×Int×Unit) (y:Unit):Wy (List α×List α×Unit×List α×Int×Int×Unit) Unit (Int⊕(List α×List α)):=zbef g x.1 x.2.1 x.2.2.2.1 x.2.2.2.2.1 x.2.2.2.2.2.1
def zbib (g:α->α->Bool×Int) (n:Nat) (s1:List α) (s2:List α) (t11:List α) (t12:Int) (t13:Int):Bool×(Int⊕(List α×List α)):=zA (zbis g) (.inl default) n (s1,s2,(),t11,t12,t13,()) ()
def CF (g:α->α->Bool×Int) (s1 s2:List α):Bool×Int:=(.bn (zbib g (s1.length+s2.length+s1.length+(Int.ofNat s1.length).toNat +Int.toNat (0:Int)+(1:Nat)) s1 s2 s1 (Int.ofNat s1.length) (0:Int)) λr2=>.i (isL r2) (.k (getL r2)) (.i (decide (Int.ofNat (getR r2).fst.length<Int.ofNat (getR r2).snd.length)) (.k (-1:Int)) (.k (0:Int))):Wy0 Int).fin default
theorem zbhx (g:α->α->Bool×Int) (c:α->α->Int) (a b:List α) (ha:a.length<=1000000) (hg:∀ x∈a,∀ y∈b,g x y=(true,c x y)):∀ (n i:Nat),a.length<i+n->i<=a.length->i<=b.length->
  ∃ r,zbib g n a b a a.length i=(true,r)/\((r=.inl (zzf c (a.drop i) (b.drop i)))\/(r=.inr (a,b)/\zzf c (a.drop i) (b.drop i)=if a.length<b.length then -1 else 0))
 | 0,i,h,h2,h3=>by omega
 | n+1,i,h,h2,h3=>by
  show ∃ r,(zbef g a b a a.length i).ev (λx y=>zbib g n x.1 x.2.1 x.2.2.2.1 x.2.2.2.2.1 x.2.2.2.2.2.1) (λr=>(true,r)) (false,.inl default)=(true,r)/\_
  unfold zbef;by_cases hi:i<a.length
  ·by_cases hi':i<b.length
   ·have hg':¬ b.length<=i:=by omega
    simp only [Wy.ev_i,Wy.ev_k,Wy.ev_h,Wy.ev_bn,Wy.ev_d,Int.ofNat_eq_natCast,zcd,zbc,decide_true,decide_false,Bool.and_self,Bool.true_and,Bool.and_true,cond_true,cond_false,Int.toNat_natCast,Bool.not_true,Bool.not_false,hi,hi',z8z,hg',hg _ (zI hi) _ (zI hi')];rw [zY hi,zY hi',zJ (by omega)]
    simp only [zzf];generalize c (a.getD i default) (b.getD i default)=z;by_cases hx:z=0
    ·have e:(z != 0)=false:=by simp [hx]
     simp only [e,cond_false,hx,if_true];exact zbhx g c a b ha hg n (i+1) (by omega) (by omega) (by omega)
    ·have e:(z != 0)=true:=by simp [hx]
     simp only [e,cond_true,hx,if_false];exact ⟨_,rfl,.inl rfl⟩
   ·have hg':b.length<=i:=by omega
    simp only [Wy.ev_i,Wy.ev_k,Wy.ev_h,Wy.ev_bn,Wy.ev_d,Int.ofNat_eq_natCast,zcd,zbc,decide_true,decide_false,Bool.and_self,Bool.true_and,Bool.and_true,cond_true,cond_false,Int.toNat_natCast,Bool.not_true,Bool.not_false,hi,z8z,hg'];refine ⟨_,rfl,.inl ?_⟩;rw [zY hi,zce hi']; rfl
  ·simp only [Wy.ev_i,Wy.ev_k,Wy.ev_h,Wy.ev_bn,Wy.ev_d,Int.ofNat_eq_natCast,zcd,zbc,decide_true,decide_false,Bool.and_self,Bool.true_and,Bool.and_true,cond_true,cond_false,Int.toNat_natCast,Bool.not_true,Bool.not_false,hi];refine ⟨_,rfl,.inr ⟨rfl, ?_⟩⟩;rw [zce hi];by_cases hi':i<b.length
   ·rw [zY hi',if_pos (by omega)]; rfl
   ·rw [zce hi',if_neg (by omega)]; rfl
theorem zboE (g:α->α->Bool×Int) (c:α->α->Int) (a b:List α) (ha:a.length<=1000000) (hg:∀ x∈a,∀ y∈b,g x y=(true,c x y)):CF g a b=(true,zzf c a b):=by
 unfold CF;obtain ⟨r,h1,h2⟩:=zbhx g c a b ha hg (a.length+b.length+a.length+(Int.ofNat a.length).toNat +Int.toNat 0+1) 0 (by simp; omega) (by omega) (by omega)
 rw [show ((0:Nat):Int)=(0:Int) from rfl] at h1
 rw [Wy.fin_bn,show Int.ofNat a.length=(a.length:Int) from rfl] at *
 rw [h1];simp only [List.drop_zero] at h2;rcases h2 with rfl | ⟨rfl,h2⟩
 ·rfl
 ·rw [h2];simp only [Wy.fin_i,Wy.fin_k,Int.ofNat_eq_natCast,zcd,zbc,decide_true,decide_false,Bool.and_self,Bool.true_and,Bool.and_true,cond_true,cond_false,Int.toNat_natCast,Bool.not_true,Bool.not_false,isL,getR];by_cases h3:a.length<b.length <;>simp [h3]
end
theorem z3r {α:Type} [Inhabited α] (e:α->TT) (g:α->α->Bool×Int) (a b:List α) (ha:a.length<=1000000) (hg:∀ x∈a,∀ y∈b,g x y=(true,zbq (e x) (e y))):CF g a b=(true,zbV (a.map e) (b.map e)):=by
 rw [zboE g (λx y=>zbq (e x) (e y)) a b ha hg,zRm e a b λ_ _ _ _=>rfl]
theorem Fc.eta2 (x:Fc):(FO.mk (At.mk x.At.Kind x.At.Row x.At.Ag x.At.Func x.At.Items x.At.Op x.At.Bd) x.Exp:Fc)=x:=by rw [At.eta]
theorem zbla (g):zb1 g=CF g:=rfl
theorem zbit (g):zbH g=CF g:=by
 have h:zbZ g=zbis g:=by
  funext x y
  unfold zbZ zea zbis zbef;rw [Fc.eta2,Fc.eta2]
 funext a b
 unfold zbH zeg zd8;rw [h]; rfl
theorem zbmI (g):zbA g=CF g:=rfl
theorem zbkL (g):zbS g=CF g:=rfl
theorem zNu (a b:Value):zs9 a b=(true,zbq (trV a) (trV b)):=by
 unfold zs9 zRh;have h:(strings_Compare a.Text b.Text).2=zbq (trB a.Text) (trB b.Text):=by rw [<- zbhT]; rfl
 simp only [ztU,zFG,Wy.fin_bn,cond_true,h];rw [ztf _ (by simp)]
 simp only [Wy.fin_k,cond_true,trV,zbq,zbV,ztb];rfl
theorem zTW:∀ n,
  (∀ d a b,zw d a->10*d<=n->zgE n a b=(true,zbV (zdF a) (zdF b)))/\
  (∀ d a b,zw d a->10*d<=n+1->zb3 n a b=(true,zbV (zdF a) (zdF b)))/\
  (∀ d x y,zf3 (zw d) x.Fs->10*d+10<=n+2->zi5 n x y=(true,zbq (zAH x) (zAH y)))/\
  (∀ d x y,zf3 (zw d) x.Fs->10*d+10<=n+3->zhm n x y=(true,zbV (zbW x.Fs) (zbW y.Fs)))/\
  (∀ d l l',zf3 (zw d) l->10*d+10<=n+4->zb7 n l l'=(true,zbV (zbW l) (zbW l')))/\
  (∀ d x y,zel (zw d) x.At->10*d+10<=n+5->zgl n x y=(true,zbq (zrc x) (zrc y)))/\
  (∀ d x y,zel (zw d) x->10*d+10<=n+6->zhl n x y=(true,zbq (zet x) (zet y)))/\
  (∀ d a b,a.length<=1000000->(∀ x∈a,zw d x)->10*d+10<=n+7->zbC n a b=(true,zbV (zym a) (zym b)))/\
  (∀ d a b,a.length<=1000000->(∀ x∈a,zw d x.Ann)->10*d+10<=n+7->zbU n a b=(true,zbV (zhC a) (zhC b)))/\
  (∀ d x y,zw d x.Ann->10*d+10<=n+8->zfo n x y=(true,zbq (zbx x) (zbx y)))
 | 0=>by
  refine ⟨?_, ?_, ?_, ?_, ?_, ?_, ?_, ?_, ?_, ?_⟩
  ·intro d a b h hd; have:d=0:=by omega
   subst this; exact h.elim
  ·intro d a b h hd; have:d=0:=by omega
   subst this; exact h.elim
  all_goals (intros; omega)
 | n+1=>by
  obtain ⟨h1,h2,h3,h4,h5,h6,h7,h8,h9,h10⟩:=zTW n;refine ⟨?_, ?_, ?_, ?_, ?_, ?_, ?_, ?_, ?_, ?_⟩
  ·intro d a b h hd;rw [zQo];unfold zpe zDh;rw [Wy.fin_bn,h2 d a b h (by omega)]; rfl
  ·intro d a b h hd;cases d with
   | zero=>exact h.elim
   | succ d=>
    rw [ziv,zbla,zIA,zIA];exact z3r zAH _ a b h.1 λx hx y hy=>h3 d x y (h.2 x hx) (by omega)
  ·intro d x y h hd;rw [zKE];unfold zme zzV;rw [Wy.fin_bn,h4 d x y h (by omega)]
   simp only [cond_true,Wy.fin_bn,zFG];rw [ztf _ (by simp)]
   obtain ⟨c,l⟩:=x; obtain ⟨c',l'⟩:=y;simp only [cond_true,Wy.fin_k,ztb,zAH,zbq,zbV];rfl
  ·intro d x y h hd;rw [zHL];unfold zkE zxc;rw [Wy.fin_bn,h5 d _ _ h (by omega)]; rfl
  ·intro d l l' h hd;rw [zje,zbit,zyk,zyk];exact z3r zrc _ l l' h.1 λx hx y hy=>h6 d x y (h.2 x hx) (by omega)
  ·intro d x y h hd;rw [zF7];unfold zjB zu3;rw [At.eta,At.eta,Wy.fin_bn,h7 d _ _ h (by omega)]
   simp only [cond_true,Wy.fin_bn,ztU];rw [ztf _ (by simp)]
   obtain ⟨c,l⟩:=x; obtain ⟨c',l'⟩:=y;simp only [cond_true,Wy.fin_k,ztb,zrc,zbq,zbV];rfl
  ·intro d x y h hd;rw [zH6];unfold zkH zxb;simp only [cond_true,Wy.fin_bn,ztU,zNu,h8 d x.Ag y.Ag h.1.1 h.2.1 (by omega),h9 d x.Items y.Items h.1.2.1 (λw hw=>(h.2.2 w hw).2) (by omega)]
   rw [ztf _ (by simp)]
   obtain ⟨k,r,a,f,i,o,v⟩:=x; obtain ⟨k',r',a',f',i',o',v'⟩:=y;simp only [cond_true,Wy.fin_k,ztb,zet,zbq,zbV];rfl
  ·intro d a b h0 h hd;rw [zfG,zbmI,zFI,zFI];exact z3r (λx=>TT.l (zdF x)) _ a b h0 λx hx y hy=>by rw [h1 d x y (h x hx) (by omega)]; simp only [zbq]
  ·intro d a b h0 h hd;rw [zgR,zbkL,zmP,zmP];exact z3r zbx _ a b h0 λx hx y hy=>h10 d x y (h x hx) (by omega)
  ·intro d x y h hd;rw [zH5];unfold zkN zw1;simp only [cond_true,Wy.fin_bn,zNu,h1 d _ _ h (by omega)]
   rw [ztf _ (by simp)]
   obtain ⟨c,l⟩:=x; obtain ⟨c',l'⟩:=y;simp only [cond_true,Wy.fin_k,ztb,zbx,zbq,zbV];rfl
theorem zT3 {d:Nat} {a:yC} (h:zw d a) (hd:d<=100) (b:yC):zAR a b=(true,zbV (zdF a) (zdF b)):=(zTW 1000).1 d a b h (by omega)
theorem zKQ {d:Nat} {x:Term} (h:zf3 (zw d) x.Fs) (hd:d<=99) (y:Term):zcx x y=(true,zbV (zbW x.Fs) (zbW y.Fs)):=(zTW 1000).2.2.2.1 d x y h (by omega)
theorem zKM {d:Nat} {x:At} (h:zel (zw d) x) (hd:d<=99) (y:At):zi8 x y=(true,zbq (zet x) (zet y)):=(zTW 1000).2.2.2.2.2.2.1 d x y h (by omega)
theorem zon {d:Nat} {x:Wd} (h:zw d x.Ann) (hd:d<=99) (y:Wd):zbv x y=(true,zbq (zbx x) (zbx y)):=(zTW 1000).2.2.2.2.2.2.2.2.2 d x y h (by omega)
theorem zY9 {d:Nat} {a:yC} (h:zw d a) (hd:d<=100) (b:yC):zih a b=(true,decide (a=b)):=by
 unfold zih zJg;rw [Wy.fin_bn,zT3 h hd];simp only [cond_true,Wy.fin_k];congr 1;by_cases e:a=b
 ·subst e; rw [z0f]; simp
 ·have:zbV (zdF a) (zdF b)≠0:=λh=>e (zIP _ _ (zNm _ _ h))
  simp [e,this]
theorem z5q (s:ByteArray):∀ (n i:Nat) (r:List UInt8),s.size<=i+n->ByteArray.toList.loop s i r=r.reverse++s.data.toList.drop i
 | 0,i,r,h=>by
  rw [ByteArray.toList.loop,if_neg (by omega),List.drop_eq_nil_of_le (by rw [<- Lib.size_eq]; omega),List.append_nil]
 | n+1,i,r,h=>by
  rw [ByteArray.toList.loop];by_cases hi:i<s.size
  ·have hi':i<s.data.toList.length:=by rw [<- Lib.size_eq]; exact hi
   rw [if_pos hi,z5q s n (i+1) _ (by omega),List.drop_eq_getElem_cons hi',List.reverse_cons,List.append_assoc]
   congr 1
   have:s.get! i=s.data.toList[i]:=by
    have h':i<s.data.size:=hi;show s.data[i]! =s.data.toList[i];rw [getElem!_pos s.data i h']; rfl
   rw [this]; rfl
  ·rw [if_neg hi,List.drop_eq_nil_of_le (by rw [<- Lib.size_eq]; omega),List.append_nil]
theorem toList_eq (s:ByteArray):s.toList=s.data.toList:=by
 rw [ByteArray.toList,z5q s s.size 0 [] (by omega)]; rfl
theorem zII {s t:ByteArray} (h:s.data.toList=t.data.toList):s=t:=by
 cases s; cases t;congr 1;exact Array.toList_inj.1 h
theorem zbiE (s t:ByteArray):(s.toList==t.toList)=decide (s.data.toList=t.data.toList):=by
 rw [toList_eq,toList_eq];cases hb:(s.data.toList==t.data.toList) with
 | true=>rw [decide_eq_true (beq_iff_eq.1 hb)]
 | false=>rw [decide_eq_false (λh=>by rw [beq_iff_eq.2 h] at hb; cases hb)]
theorem z2K (s t:ByteArray):(s.toList==t.toList)=decide (s=t):=by
 rw [zbiE];by_cases h:s=t
 ·rw [decide_eq_true h,decide_eq_true (by rw [h])]
 ·rw [decide_eq_false h,decide_eq_false λe=>h (zII e)]
theorem zHG (z w:Int):(z != w)= !decide (z=w):=by by_cases h:z=w <;>simp [h]
theorem zXR:∀ a b:List UInt8,Op.bytesLess a b=decide (Lib.compareBytes a b<0)
 | [],[]=>by simp [Op.bytesLess,Lib.compareBytes]
 | _::_,[]=>by simp [Op.bytesLess,Lib.compareBytes]
 | [],_::_=>by simp [Op.bytesLess,Lib.compareBytes]
 | x::a,y::b=>by
  simp only [Op.bytesLess,Lib.compareBytes];by_cases p:x<y
  ·simp [p]
  ·by_cases q:y<x
   ·have hne:¬ x=y:=λe=>by subst e; exact p q
    simp [p,q,hne]
   ·have he:x=y:=UInt8.toNat_inj.1 (by rw [UInt8.lt_iff_toNat_lt] at p q; omega)
    subst he;simp [p,zXR a b]
theorem zOR (a b:Value):zoy a b=(true,zbq (trV a) (trV b)):=by
 unfold zoy zQM zBR z12;rw [z2K,toList_eq,toList_eq,zXR,zbhT];simp only [trV,zbq,zbV,zdJ];simp only [Wy.fin_i,Wy.fin_bn,Wy.fin_k,cond_true,zHG];by_cases h1:a.Kind=b.Kind
 ·by_cases h2:a.Int=b.Int
  ·by_cases h3:a.Text=b.Text
   ·simp [h1,h2,h3,zRj]
   ·have h4:zbq (trB a.Text) (trB b.Text)≠0:=λe=>by
     have:=zLi _ _ (TT.l.inj (zvD _ _ e));exact h3 (zII this)
    have h5:=zbfS (trB a.Text) (trB b.Text);simp only [trB,zbq] at h4 h5;simp only [trB,zbq];rcases h5 with h5 | h5 | h5
    ·simp [h1,h2,h3,h5]
    ·exact absurd h5 h4
    ·simp [h1,h2,h3,h5]
  ·by_cases h3:a.Int<b.Int
   ·simp [h1,h2,h3]
   ·simp [h1,h2,h3,show b.Int<a.Int by omega]
 ·by_cases h3:a.Kind<b.Kind
  ·simp [h1,h3]
  ·simp [h1,h3,show b.Kind<a.Kind by omega]
theorem zob (x y:Int):zcZ x y=(true,zdJ x y):=by
 unfold zcZ zUU zdJ;by_cases h1:x<y
 ·simp [h1,Wy.fin_i,Wy.fin_k]
 ·by_cases h2:y<x <;>simp [h1,h2,Wy.fin_i,Wy.fin_k]
theorem zG7 (x y:RowID):zh0 x y=(true,if zdJ x.Table y.Table=0 then zdJ x.Seq y.Seq else zdJ x.Table y.Table):=by
 unfold zh0 zJr;simp only [zob,Wy.fin_i,Wy.fin_bn,Wy.fin_k,cond_true,zHG];by_cases h:zdJ x.Table y.Table=0
 ·simp [h]
 ·simp [h]
section
variable {α:Type} [Inhabited α]
def zbd8 (p q:α->α->Bool×Int) (a:List α) (b:List α) (i:Int):Wy (List α×List α×Int×Unit) Unit (Int⊕(List α×List α)):=.i (decide (i<Int.ofNat a.length)) (.i (decide (i<Int.ofNat b.length)) (.i (decide ((0:Int)<=i)&&decide (i<Int.ofNat a.length)) (.i (decide ((0:Int)<=i)&&decide (i<Int.ofNat b.length)) (.bn (p (a.getD i.toNat default) (b.getD i.toNat default)) λr1=>.i (r1 != (0:Int)) (.k (.inl (r1))) (.i (decide ((0:Int)<=i)&&decide (i<Int.ofNat a.length)) (.i (decide ((0:Int)<=i)&&decide (i<Int.ofNat b.length)) (.bn (q (a.getD i.toNat default) (b.getD i.toNat default)) λr0=>.i (r0 != (0:Int)) (.k (.inl (r0))) (.h (a,b,(IntKind.i64.wrap (i+(1:Int))),()) ())) .d) .d)) .d) .d) (.k (.inr (a,b)))) (.k (.inr (a,b)))
def zbi2 (p q:α->α->Bool×Int) (x:List α×List α×Int×Unit) (y:Unit):Wy (List α×List α×Int×Unit) Unit (Int⊕(List α×List α)):=zbd8 p q x.1 x.2.1 x.2.2.1
def zbiL (p q:α->α->Bool×Int) (n:Nat) (a:List α) (b:List α) (i:Int):Bool×(Int⊕(List α×List α)):=zA (zbi2 p q) (.inl default) n (a,b,i,()) ()
def RG (p q:α->α->Bool×Int) (a b:List α):Bool×Int:=(.bn (zbiL p q (a.length+b.length+Int.toNat (0:Int)+(1:Nat)) a b (0:Int)) λr5=>.i (isL r5) (.k (getL r5)) (.bn (zcZ (Int.ofNat (getR r5).fst.length) (Int.ofNat (getR r5).snd.length)) λr4=>.k r4):Wy0 Int).fin default
theorem zbhO (p q:α->α->Bool×Int) (c1 c2:α->α->Int) (a b:List α) (ha:a.length<=1000000) (hp:∀ x∈a,∀ y∈b,p x y=(true,c1 x y)) (hq:∀ x∈a,∀ y∈b,q x y=(true,c2 x y)):∀ (n i:Nat),a.length<i+n->i<=a.length->i<=b.length->
  ∃ r,zbiL p q n a b i=(true,r)/\((r=.inl (zzf (λx y=>if c1 x y=0 then c2 x y else c1 x y) (a.drop i) (b.drop i)))\/(r=.inr (a,b)/\zzf (λx y=>if c1 x y=0 then c2 x y else c1 x y) (a.drop i) (b.drop i)=zdJ a.length b.length))
 | 0,i,h,h2,h3=>by omega
 | n+1,i,h,h2,h3=>by
  show ∃ r,(zbd8 p q a b i).ev (λx y=>zbiL p q n x.1 x.2.1 x.2.2.1) (λr=>(true,r)) (false,.inl default)=(true,r)/\_
  unfold zbd8;by_cases hi:i<a.length
  ·by_cases hi':i<b.length
   ·simp only [Wy.ev_i,Wy.ev_k,Wy.ev_h,Wy.ev_bn,Wy.ev_d,tT,hi,hi',hp _ (zI hi) _ (zI hi'),hq _ (zI hi) _ (zI hi')];rw [zY hi,zY hi',zJ (by omega)]
    simp only [zzf];generalize c1 (a.getD i default) (b.getD i default)=z1;generalize c2 (a.getD i default) (b.getD i default)=z2;by_cases hx:z1=0
    ·have e:(z1 != 0)=false:=by simp [hx]
     by_cases hx2:z2=0
     ·have e2:(z2 != 0)=false:=by simp [hx2]
      simp only [e,e2,cond_false,hx,hx2,if_true];exact zbhO p q c1 c2 a b ha hp hq n (i+1) (by omega) (by omega) (by omega)
     ·have e2:(z2 != 0)=true:=by simp [hx2]
      simp only [e,e2,cond_false,cond_true,hx,hx2,if_true,if_false];exact ⟨_,rfl,.inl rfl⟩
    ·have e:(z1 != 0)=true:=by simp [hx]
     simp only [e,cond_true,hx,if_false];exact ⟨_,rfl,.inl rfl⟩
   ·simp only [Wy.ev_i,Wy.ev_k,Wy.ev_h,Wy.ev_bn,Wy.ev_d,tT,hi,hi'];refine ⟨_,rfl,.inr ⟨rfl, ?_⟩⟩;rw [zY hi,zce hi'];unfold zdJ; rw [if_neg (by omega),if_pos (by omega)]; rfl
  ·simp only [Wy.ev_i,Wy.ev_k,Wy.ev_h,Wy.ev_bn,Wy.ev_d,tT,hi];refine ⟨_,rfl,.inr ⟨rfl, ?_⟩⟩;rw [zce hi];by_cases hi':i<b.length
   ·rw [zY hi']; unfold zdJ; rw [if_pos (by omega)]; rfl
   ·rw [zce hi']; unfold zdJ; rw [if_neg (by omega),if_neg (by omega)]; rfl
theorem zboL (p q:α->α->Bool×Int) (c1 c2:α->α->Int) (a b:List α) (ha:a.length<=1000000) (hp:∀ x∈a,∀ y∈b,p x y=(true,c1 x y)) (hq:∀ x∈a,∀ y∈b,q x y=(true,c2 x y)):RG p q a b=(true,zzf (λx y=>if c1 x y=0 then c2 x y else c1 x y) a b):=by
 unfold RG;obtain ⟨r,h1,h2⟩:=zbhO p q c1 c2 a b ha hp hq (a.length+b.length+Int.toNat 0+1) 0 (by simp; omega) (by omega) (by omega)
 rw [show ((0:Nat):Int)=(0:Int) from rfl] at h1
 rw [Wy.fin_bn,h1];simp only [List.drop_zero] at h2;rcases h2 with rfl | ⟨rfl,h2⟩
 ·rfl
 ·rw [h2];simp only [Wy.fin_i,Wy.fin_k,Wy.fin_bn,zob,tT,isL,getR]
end
theorem zbav {α:Type} [Inhabited α] (e:α->TT) (p q:α->α->Bool×Int) (c1 c2:α->α->Int) (a b:List α) (ha:a.length<=1000000) (hp:∀ x∈a,∀ y∈b,p x y=(true,c1 x y)) (hq:∀ x∈a,∀ y∈b,q x y=(true,c2 x y))
  (hc:∀ x y,(if c1 x y=0 then c2 x y else c1 x y)=zbq (e x) (e y)):RG p q a b=(true,zbV (a.map e) (b.map e)):=by
 rw [zboL p q c1 c2 a b ha hp hq,zRm e a b λx _ y _=>hc x y]
theorem zblw (g):zzN g=RG (λx y=>g x.Fs y.Fs) (λx y=>zcZ x.Cf y.Cf):=rfl
theorem zbiv (g):zjU g=RG (λx y=>g x.At y.At) (λx y=>zcZ x.Exp y.Exp):=by
 have h:zkK g=zbi2 (λx y=>g x.At y.At) (λx y=>zcZ x.Exp y.Exp):=by
  funext x y
  unfold zkK zzF zbi2 zbd8;rw [At.eta,At.eta]
 funext a b
 unfold zjU zAV zzI;rw [h]; rfl
theorem zbk1 (g):zpE g=RG (λx y=>zoy x.Value y.Value) (λx y=>g x.Ann y.Ann):=rfl
theorem zbcS (gI) (g:yC->yC->Bool×Int) (a b:At) (ha:a.Ag.length<=1000000) (hg:∀ x∈a.Ag,∀ y∈b.Ag,g x y=(true,zbV (zdF x) (zdF y))):∀ (n i:Nat),a.Ag.length<i+n->i<=a.Ag.length->i<=b.Ag.length->
  ∃ r,zuM g gI n i a b=(true,r)/\((r=.inl (zzf (λx y=>zbV (zdF x) (zdF y)) (a.Ag.drop i) (b.Ag.drop i))/\zzf (λx y=>zbV (zdF x) (zdF y)) (a.Ag.drop i) (b.Ag.drop i)≠0)\/(r=.inr (a,b)/\zzf (λx y=>zbV (zdF x) (zdF y)) (a.Ag.drop i) (b.Ag.drop i)=zdJ a.Ag.length b.Ag.length))
 | 0,i,h,h2,h3=>by omega
 | n+1,i,h,h2,h3=>by
  show ∃ r,(zuY g gI i a b).ev (λx y=>zuM g gI n x.2.2.1 y.1 y.2.1) (λr=>(true,r)) (false,.inl default)=(true,r)/\_
  unfold zuY;by_cases hi:i<a.Ag.length
  ·by_cases hi':i<b.Ag.length
   ·simp only [Wy.ev_i,Wy.ev_k,Wy.ev_h,Wy.ev_bn,Wy.ev_d,tT,hi,hi',hg _ (zI hi) _ (zI hi')];rw [zY hi,zY hi',zJ (by omega)]
    simp only [zzf];generalize zbV (zdF (a.Ag.getD i default)) (zdF (b.Ag.getD i default))=z1;by_cases hx:z1=0
    ·have e:(z1 != 0)=false:=by simp [hx]
     simp only [e,cond_false,hx,if_true];exact zbcS gI g a b ha hg n (i+1) (by omega) (by omega) (by omega)
    ·have e:(z1 != 0)=true:=by simp [hx]
     simp only [e,cond_true,hx,if_false];exact ⟨_,rfl,.inl ⟨rfl,hx⟩⟩
   ·simp only [Wy.ev_i,Wy.ev_k,Wy.ev_h,Wy.ev_bn,Wy.ev_d,tT,hi,hi'];refine ⟨_,rfl,.inr ⟨rfl, ?_⟩⟩;rw [zY hi,zce hi'];unfold zdJ; rw [if_neg (by omega),if_pos (by omega)]; rfl
  ·simp only [Wy.ev_i,Wy.ev_k,Wy.ev_h,Wy.ev_bn,Wy.ev_d,tT,hi];refine ⟨_,rfl,.inr ⟨rfl, ?_⟩⟩;rw [zce hi];by_cases hi':i<b.Ag.length
   ·rw [zY hi']; unfold zdJ; rw [if_pos (by omega)]; rfl
   ·rw [zce hi']; unfold zdJ; rw [if_neg (by omega),if_neg (by omega)]; rfl
theorem zbm5 (gI) (g:yC->yC->Bool×Int) (x y:At) (ha:x.Ag.length<=1000000) (hg:∀ a∈x.Ag,∀ b∈y.Ag,g a b=(true,zbV (zdF a) (zdF b)))
  (hI:gI x.Items y.Items=(true,zbV (zhC x.Items) (zhC y.Items))):zmw g gI x y=(true,zbq (zet x) (zet y)):=by
 unfold zmw zEJ;rw [At.eta,At.eta];obtain ⟨r,h1,h2⟩:=zbcS gI g x y ha hg (Int.toNat 0+x.Ag.length+x.Items.length+y.Ag.length+y.Items.length+1) 0 (by omega) (by omega) (by omega)
 rw [show ((0:Nat):Int)=(0:Int) from rfl] at h1
 simp only [List.drop_zero] at h2;rw [zRm (λa=>TT.l (zdF a)) x.Ag y.Ag (λa _ b _=>by simp only [zbq]), <- zFI, <- zFI] at h2
 simp only [zob,zG7,Wy.fin_bn,Wy.fin_i,Wy.fin_k,cond_true,h1];obtain ⟨k,r0,a,f,i,o,v⟩:=x; obtain ⟨k',r',a',f',i',o',v'⟩:=y;simp only [zet,zbq,zbV,zHG] at *;by_cases e1:zdJ k k'=0
 rotate_left
 ·simp [e1]
 by_cases e2:zdJ r0.Table r'.Table=0
 rotate_left
 ·simp [e1,e2]
 by_cases e3:zdJ r0.Seq r'.Seq=0
 rotate_left
 ·simp [e1,e2,e3]
 rcases h2 with ⟨rfl,h2⟩ | ⟨rfl,h2⟩
 ·simp [e1,e2,e3,h2,isL,getL]
 simp only [e1,e2,e3,h2,isL,getR,tT,hI,if_true];by_cases e4:zdJ (a.length:Int) (a'.length:Int)=0
 rotate_left
 ·simp [e4]
 by_cases e5:zdJ f f'=0
 rotate_left
 ·simp [e4,e5]
 by_cases e6:zbV (zhC i) (zhC i')=0
 rotate_left
 ·simp [e4,e5,e6]
 by_cases e7:zdJ o o'=0
 rotate_left
 ·simp [e4,e5,e6,e7]
 simp [e4,e5,e6,e7,zOR]
theorem zNt:∀ n,
  (∀ d a b,zw d a->10*d<=n->znL n a b=(true,zbV (zdF a) (zdF b)))/\
  (∀ d l l',zf3 (zw d) l->10*d+10<=n+1->zjX n l l'=(true,zbV (zbW l) (zbW l')))/\
  (∀ d x y,zel (zw d) x->10*d+10<=n+2->zmv n x y=(true,zbq (zet x) (zet y)))/\
  (∀ d a b,a.length<=1000000->(∀ x∈a,zw d x.Ann)->10*d+10<=n+3->zlp n a b=(true,zbV (zhC a) (zhC b)))
 | 0=>by
  refine ⟨?_, ?_, ?_, ?_⟩
  ·intro d a b h hd; have:d=0:=by omega
   subst this; exact h.elim
  all_goals (intros; omega)
 | n+1=>by
  obtain ⟨h1,h2,h3,h4⟩:=zNt n;refine ⟨?_, ?_, ?_, ?_⟩
  ·intro d a b h hd;cases d with
   | zero=>exact h.elim
   | succ d=>
    rw [z2N,zblw,zIA,zIA]
    exact zbav zAH _ _ (λx y=>zbV (zbW x.Fs) (zbW y.Fs)) (λx y=>zdJ x.Cf y.Cf) a b h.1 (λx hx y hy=>h2 d _ _ (h.2 x hx) (by omega)) (λx _ y _=>zob _ _) λx y=>by
     obtain ⟨c,l⟩:=x; obtain ⟨c',l'⟩:=y;simp only [zAH,zbq,zbV];by_cases e:zdJ c c'=0 <;>simp [e]
  ·intro d l l' h hd;rw [zM7,zbiv,zyk,zyk]
   exact zbav zrc _ _ (λx y=>zbq (zet x.At) (zet y.At)) (λx y=>zdJ x.Exp y.Exp) l l' h.1 (λx hx y hy=>h3 d _ _ (h.2 x hx) (by omega)) (λx _ y _=>zob _ _) λx y=>by
    obtain ⟨c,l⟩:=x; obtain ⟨c',l'⟩:=y;simp only [zrc,zbq,zbV];by_cases e:zdJ l l'=0 <;>simp [e]
  ·intro d x y h hd;rw [zSk];exact zbm5 _ _ x y h.1.1 (λa ha b _=>h1 d a b (h.2.1 a ha) (by omega)) (h4 d _ _ h.1.2.1 (λw hw=>(h.2.2 w hw).2) (by omega))
  ·intro d a b h0 h hd;rw [zQm,zbk1,zmP,zmP]
   exact zbav zbx _ _ (λx y=>zbq (trV x.Value) (trV y.Value)) (λx y=>zbV (zdF x.Ann) (zdF y.Ann)) a b h0 (λx _ y _=>zOR _ _) (λx hx y _=>h1 d _ _ (h x hx) (by omega)) λx y=>by
    obtain ⟨c,l⟩:=x; obtain ⟨c',l'⟩:=y;simp only [zbx,zbq,zbV];by_cases e:zbV (zdF l) (zdF l')=0 <;>simp [e]
theorem z6c {d:Nat} {a:yC} (h:zw d a) (hd:d<=100) (b:yC):zKA a b=(true,zbV (zdF a) (zdF b)):=(zNt 1000).1 d a b h (by omega)
theorem zsP {d:Nat} {l:yD} (h:zf3 (zw d) l) (hd:d<=99) (l':yD):zlG l l'=(true,zbV (zbW l) (zbW l')):=(zNt 1000).2.1 d l l' h (by omega)
theorem zxs {d:Nat} {x:At} (h:zel (zw d) x) (hd:d<=99) (y:At):zlN x y=(true,zbq (zet x) (zet y)):=(zNt 1000).2.2.1 d x y h (by omega)
theorem zEw {d:Nat} {a:yE} (h0:a.length<=1000000) (h:∀ x∈a,zw d x.Ann) (hd:d<=99) (b:yE):zt7 a b=(true,zbV (zhC a) (zhC b)):=(zNt 1000).2.2.2 d a b h0 h (by omega)
theorem zX7 {d:Nat} {a:yC} (h:zw d a) (hd:d<=100) (b:yC):zua a b=(true,decide (a=b)):=by
 unfold zua z0Q;rw [Wy.fin_bn,z6c h hd];simp only [cond_true,Wy.fin_k];congr 1;by_cases e:a=b
 ·subst e; rw [z0f]; simp
 ·have:zbV (zdF a) (zdF b)≠0:=λh=>e (zIP _ _ (zNm _ _ h))
  simp [e,this]
def zka (c:Nat->Bool):Nat->Nat->Bool
 | 0,_=>true
 | n+1,i=>c i&&zka c n (i+1)
theorem zlb {c:Nat->Bool}:∀ {n i},zka c n i=true↔∀ k,i<=k->k<i+n->c k=true
 | 0,i=>⟨λ_ k h1 h2=>by omega,λ_=>rfl⟩
 | n+1,i=>by
  simp only [zka,qc,zlb (n:=n)];constructor
  ·rintro ⟨h1,h2⟩ k h3 h4
   by_cases e:k=i
   ·rw [e]; exact h1
   ·exact h2 k (by omega) (by omega)
  ·intro h;exact ⟨h i (by omega) (by omega),λk h1 h2=>h k (by omega) (by omega)⟩
theorem zbfB (c c':Nat->Bool):∀ n i,zka (λk=>c k&&c' k) n i=(zka c n i&&zka c' n i)
 | 0,_=>rfl
 | n+1,i=>by
  simp only [zka,zbfB c c' n (i+1)];cases c i <;>cases c' i <;>simp
theorem zbfc {τ:Type} [Inhabited τ] (p:τ->Bool) (l:List τ):∀ n i,i+n=l.length->zka (λk=>p (l.getD k default)) n i=(l.drop i).all p
 | 0,i,h=>by rw [zce (by omega)]; rfl
 | n+1,i,h=>by
  rw [zY (by omega),List.all_cons]
  simp only [zka,zbfc p l n (i+1) (by omega)]
theorem ztF {τ:Type} [Inhabited τ] (p:τ->Bool) (l:List τ):zka (λk=>p (l.getD k default)) l.length 0=l.all p:=by
 rw [zbfc p l _ _ (by omega),List.drop_zero]
section
variable {α β ρ:Type}
theorem zbeM {W:α->β->Wy α β ρ} {z:ρ} (N:Nat) (ex:Nat->α) (ey:Nat->β) (c:Nat->Bool) (no yes:ρ)
  (h:∀ i,i<N->∀ (H:α->β->Bool×ρ) K D,(W (ex i) (ey i)).ev H K D=bif c i then H (ex (i+1)) (ey (i+1)) else K no)
  (he:∀ (H:α->β->Bool×ρ) K D,(W (ex N) (ey N)).ev H K D=K yes):
  ∀ n i,N<i+n->i<=N->zA W z n (ex i) (ey i)=(true,bif zka c (N - i) i then yes else no)
 | 0,i,h1,h2=>by omega
 | n+1,i,h1,h2=>by
  show (W (ex i) (ey i)).ev (zA W z n) (λr=>(true,r)) (false,z)=_
  by_cases hi:i<N
  ·rw [h i hi,show N - i=(N - (i+1))+1 by omega]
   simp only [zka];cases c i with
   | false=>rfl
   | true=>rw [cond_true,zbeM N ex ey c no yes h he n (i+1) (by omega) (by omega)]; rfl
  ·have:i=N:=by omega
   subst this;rw [he,Nat.sub_self]; rfl
theorem zg7 {W:α->β->Wy α β ρ} {z:ρ} (N:Nat) (ex:Nat->α) (ey:Nat->β) (c:Nat->Bool) (no yes:ρ)
  (h:∀ i,i<N->∀ (H:α->β->Bool×ρ) K D,(W (ex i) (ey i)).ev H K D=bif c i then H (ex (i+1)) (ey (i+1)) else K no)
  (he:∀ (H:α->β->Bool×ρ) K D,(W (ex N) (ey N)).ev H K D=K yes) (n:Nat) (hn:N<n):zA W z n (ex 0) (ey 0)=(true,bif zka c N 0 then yes else no):=by
 have:=zbeM (z:=z) N ex ey c no yes h he n 0 (by omega) (by omega)
 simpa using this
end
def ixf {α:Type} (p:α->Bool):List α->Nat->Int
 | [],_=> -1
 | x::r,i=>bif p x then (i:Int) else ixf p r (i+1)
theorem zbhF {α:Type} (p:α->Bool):∀ (l:List α) (i:Nat),decide (ixf p l i≥(0:Int))=l.any p
 | [],i=>by simp [ixf]
 | x::r,i=>by
  rw [List.any_cons];cases h:p x with
  | true=>simp [ixf,h]
  | false=>simpa [ixf,h] using zbhF p r (i+1)
section
variable {α γ:Type} [Inhabited α]
def z9M (p:γ->α->Bool×Bool) (s:List α) (g:γ) (t7:Int) (t8:Int):Wy (List α×γ×Int×Int×Unit) Unit (Int⊕Unit):=.i (decide (t8<t7)) (.i (decide ((0:Int)<=t8)&&decide (t8<Int.ofNat s.length)) (.bn (p g (s.getD t8.toNat default)) λr0=>.i (r0) (.k (.inl t8)) (.h (s,g,t7,(IntKind.i64.wrap (t8+(1:Int))),()) ())) .d) (.k (.inr ()))
def z97 (p:γ->α->Bool×Bool) (x:List α×γ×Int×Int×Unit) (y:Unit):Wy (List α×γ×Int×Int×Unit) Unit (Int⊕Unit):=z9M p x.1 x.2.1 x.2.2.1 x.2.2.2.1
def zbh3 (p:γ->α->Bool×Bool) (n:Nat) (s:List α) (g:γ) (t7:Int) (t8:Int):Bool×(Int⊕Unit):=zA (z97 p) (.inl default) n (s,g,t7,t8,()) ()
def IG (p:γ->α->Bool×Bool) (n:Nat) (g:γ) (s:List α):Bool×Int:=(.bn (zbh3 p n s g (Int.ofNat s.length) (0:Int)) λr2=>.i (isL r2) (.k (getL r2)) (.k (-1:Int)):Wy0 Int).fin default
def zbiC (p:γ->α->Bool×Bool) (s:List α) (g:γ) (t7:Int) (t8:Int):Wy (List α×γ×Int×Int×Unit) Unit (Int⊕Unit):=.i (decide (t8<t7)) (.i (decide ((0:Int)<=t8)&&decide (t8<Int.ofNat s.length)) (.i ((p g (s.getD t8.toNat default)).snd) (.k (.inl t8)) (.h (s,g,t7,(IntKind.i64.wrap (t8+(1:Int))),()) ())) .d) (.k (.inr ()))
def zbos (p:γ->α->Bool×Bool) (x:List α×γ×Int×Int×Unit) (y:Unit):Wy (List α×γ×Int×Int×Unit) Unit (Int⊕Unit):=zbiC p x.1 x.2.1 x.2.2.1 x.2.2.2.1
def zbiq (p:γ->α->Bool×Bool) (n:Nat) (s:List α) (g:γ) (t7:Int) (t8:Int):Bool×(Int⊕Unit):=zA (zbos p) (.inl default) n (s,g,t7,t8,()) ()
def IH (p:γ->α->Bool×Bool) (n:Nat) (g:γ) (s:List α):Bool×Int:=(.bn (zbiq p n s g (Int.ofNat s.length) (0:Int)) λr2=>.i (isL r2) (.k (getL r2)) (.k (-1:Int)):Wy0 Int).fin default
theorem zbhP (p:γ->α->Bool×Bool) (P:α->Bool) (g:γ) (s:List α) (hs:s.length<=1000000000) (hp:∀ x∈s,p g x=(true,P x)):∀ (n i:Nat),s.length<i+n->i<=s.length->
  ∃ r,zbh3 p n s g s.length i=(true,r)/\((r=.inl (ixf P (s.drop i) i))\/(r=.inr ()/\ixf P (s.drop i) i= -1))
 | 0,i,h,h2=>by omega
 | n+1,i,h,h2=>by
  show ∃ r,(z9M p s g s.length i).ev (λx y=>zbh3 p n x.1 x.2.1 x.2.2.1 x.2.2.2.1) (λr=>(true,r)) (false,.inl default)=(true,r)/\_
  unfold z9M;by_cases hi:i<s.length
  ·simp only [Wy.ev_i,Wy.ev_k,Wy.ev_h,Wy.ev_bn,Wy.ev_d,tT,hi,hp _ (zI hi)];rw [zY hi,zJ (by omega)]
   simp only [ixf];cases P (s.getD i default) with
   | true=>exact ⟨_,rfl,.inl rfl⟩
   | false=>exact zbhP p P g s hs hp n (i+1) (by omega) (by omega)
  ·simp only [Wy.ev_i,Wy.ev_k,Wy.ev_h,Wy.ev_bn,Wy.ev_d,tT,hi,zce hi];exact ⟨_,rfl,.inr ⟨rfl,rfl⟩⟩
theorem zV2 (p:γ->α->Bool×Bool) (P:α->Bool) (n:Nat) (g:γ) (s:List α) (hs:s.length<=1000000000) (hp:∀ x∈s,p g x=(true,P x)) (hn:s.length<n):IG p n g s=(true,ixf P s 0):=by
 unfold IG;obtain ⟨r,h1,h2⟩:=zbhP p P g s hs hp n 0 (by omega) (by omega)
 rw [show ((0:Nat):Int)=(0:Int) from rfl] at h1
 rw [Wy.fin_bn,show Int.ofNat s.length=(s.length:Int) from rfl,h1]
 rw [List.drop_zero] at h2;rcases h2 with rfl | ⟨rfl,h2⟩
 ·rfl
 ·rw [h2]; rfl
theorem zbhN (p:γ->α->Bool×Bool) (P:α->Bool) (g:γ) (s:List α) (hs:s.length<=1000000000) (hp:∀ x∈s,p g x=(true,P x)):∀ (n i:Nat),s.length<i+n->i<=s.length->
  ∃ r,zbiq p n s g s.length i=(true,r)/\((r=.inl (ixf P (s.drop i) i))\/(r=.inr ()/\ixf P (s.drop i) i= -1))
 | 0,i,h,h2=>by omega
 | n+1,i,h,h2=>by
  show ∃ r,(zbiC p s g s.length i).ev (λx y=>zbiq p n x.1 x.2.1 x.2.2.1 x.2.2.2.1) (λr=>(true,r)) (false,.inl default)=(true,r)/\_
  unfold zbiC;by_cases hi:i<s.length
  ·simp only [Wy.ev_i,Wy.ev_k,Wy.ev_h,Wy.ev_bn,Wy.ev_d,tT,hi,hp _ (zI hi)];rw [zY hi,zJ (by omega)]
   simp only [ixf];cases P (s.getD i default) with
   | true=>exact ⟨_,rfl,.inl rfl⟩
   | false=>exact zbhN p P g s hs hp n (i+1) (by omega) (by omega)
  ·simp only [Wy.ev_i,Wy.ev_k,Wy.ev_h,Wy.ev_bn,Wy.ev_d,tT,hi,zce hi];exact ⟨_,rfl,.inr ⟨rfl,rfl⟩⟩
theorem zboy (p:γ->α->Bool×Bool) (P:α->Bool) (n:Nat) (g:γ) (s:List α) (hs:s.length<=1000000000) (hp:∀ x∈s,p g x=(true,P x)) (hn:s.length<n):IH p n g s=(true,ixf P s 0):=by
 unfold IH;obtain ⟨r,h1,h2⟩:=zbhN p P g s hs hp n 0 (by omega) (by omega)
 rw [show ((0:Nat):Int)=(0:Int) from rfl] at h1
 rw [Wy.fin_bn,show Int.ofNat s.length=(s.length:Int) from rfl,h1]
 rw [List.drop_zero] at h2;rcases h2 with rfl | ⟨rfl,h2⟩
 ·rfl
 ·rw [h2]; rfl
theorem zp5 {α:Type} {s:List α} {P:α->Bool} {q:Bool×Int} (h:q=(true,ixf P s 0)):((.bn q λr0=>.k (decide (r0≥(0:Int))):Wy0 Bool).fin default)=(true,s.any P):=by
 rw [h,Wy.fin_bn,cond_true,Wy.fin_k,zbhF]
end
theorem zl2 (a b:Int):(a==b)=decide (a=b):=by by_cases h:a=b <;>simp [h]
theorem zbba (a b:Nat):(a==b)=decide (a=b):=by by_cases h:a=b <;>simp [h]
theorem i0 (l:Nat):((l:Int)==0)=(l==0):=by
 rw [zl2,zbba]; congr 1; simp
def zzh (a:yC):Bool:=a.any λt=>t.Fs.length==0
theorem zbbD (a:yC) (h:a.length<=1000000000):zfd a=(true,zzh a):=by
 unfold zfd zAP zdx zhY;have:zdX a=IH (λ(_:Unit) x=>zhu x) (a.length+(Int.ofNat a.length).toNat +Int.toNat (0:Int)+(1:Nat)) () a:=rfl
 rw [zp5 (P:=λt:Term=>t.Fs.length==0) (this.trans (zboy _ _ _ _ _ h (λx _=>by
  unfold zhu zw4;rw [Wy.fin_k];congr 1;exact i0 x.Fs.length) (by omega)))]
 rfl
theorem zCG (a:yC) (h:a.length<=1000000000):ziV a=(true,zzh a):=by
 unfold ziV zNI zLK
 have:=zg7 (W:=zCJ) (z:=.inl default) a.length (λi=>(a,(i:Int),())) (λ_=>()) (λi=> !((a.getD i default).Fs.length==0)) (.inl true) (.inr ())
  (λi hi H K D=>by
   show (zo6 a i).ev H K D=_;unfold zo6;simp only [Wy.ev_i,Wy.ev_k,Wy.ev_h,Wy.ev_bn,Wy.ev_d,tT,hi,i0];rw [zJ (by omega)]
   cases (a.getD i default).Fs.length==0 <;>rfl)
  (λH K D=>by
   show (zo6 a a.length).ev H K D=_;unfold zo6;simp only [Wy.ev_i,Wy.ev_k,tT,Nat.lt_irrefl]) (a.length+Int.toNat (0:Int)+(1:Nat)) (by omega)
 rw [show ((0:Nat):Int)=(0:Int) from rfl] at this
 rw [Wy.fin_bn,this,ztF (λt:Term=> !(t.Fs.length==0)) a]
 have e:(a.all λt:Term=> !(t.Fs.length==0))= !zzh a:=by simp [zzh,List.all_eq_not_any_not]
 rw [e];cases zzh a <;>rfl
def isC:yC->Bool
 | [t]=>t.Fs.length==0
 | _=>false
theorem zbdU (a:yC):zhP a=(true,isC a):=by
 unfold zhP zCf
 match a with
 | []=>rfl
 | [t]=>exact congrArg (Prod.mk true) (i0 t.Fs.length)
 | t::u::r=>
  have:((Int.ofNat (t::u::r).length)==(1:Int))=false:=by simp; omega
  rw [Wy.fin_i,this]; rfl
def zblf (p:Fc->Bool):yD->Bool
 | [f]=>p f
 | _=>false
def isU:yC->Bool
 | [t]=>t.Cf==1&&zblf (λf=>f.Exp==1&&(f.At.Kind==2||f.At.Kind==3||f.At.Kind==4)) t.Fs
 | _=>false
theorem zbhU (x:At):zfX x=(true,x.Kind==3||x.Kind==4):=by
 unfold zfX zB6;rw [Wy.fin_i,Wy.fin_k,Wy.fin_k];cases x.Kind==3 <;>rfl
theorem zRA {τ:Type} (x y:τ) (r:List τ):((Int.ofNat (x::y::r).length)==(1:Int))=false:=by
 rw [beq_eq_false_iff_ne]; simp; omega
theorem zbj0 (a:yC):zlQ a=(true,isU a):=by
 unfold zlQ zGR
 match a with
 | []=>rfl
 | ⟨c,[]⟩::[]=>
  show (bif c != 1 then (true,false) else (true,false))=(true,c==1&&false)
  cases c != 1 <;>simp
 | ⟨c,[f]⟩::[]=>
  simp only [Wy.fin_i,Wy.fin_k,tT,isU,List.length_singleton,zbhU,Wy.fin_bn,Wy.fin_d];show (bif c != 1 then (true,false) else bif f.Exp==1 then bif f.At.Kind==2 then (true,true) else (true,f.At.Kind==3||f.At.Kind==4) else (true,false))=(true,c==1&&(f.Exp==1&&(f.At.Kind==2||f.At.Kind==3||f.At.Kind==4)))
  rw [show (c != 1)= !(c==1) from rfl]
  cases c==1 <;>cases f.Exp==1 <;>cases f.At.Kind==2 <;>simp
 | ⟨c,f::g::r⟩::[]=>
  simp only [Wy.fin_i,bne,zRA];show (bif !(c==1) then (true,false) else (true,false))=(true,c==1&&false)
  cases c==1 <;>rfl
 | t::u::r=>rw [Wy.fin_i,bne,zRA]; rfl
def isB:yC->Bool
 | [t]=>t.Cf==1&&zblf (λf=>f.Exp==1&&decide (2<=f.At.Kind)) t.Fs
 | _=>false
theorem zQC (a:yC):zre a=(true,isB a):=by
 unfold zre zUC
 match a with
 | []=>rfl
 | ⟨c,[]⟩::[]=>
  show (bif c==1 then (true,false) else (true,false))=(true,c==1&&false)
  cases c==1 <;>rfl
 | ⟨c,[f]⟩::[]=>
  simp only [Wy.fin_i,Wy.fin_k,tT,List.length_singleton,Wy.fin_bn,Wy.fin_d];show (bif c==1 then bif decide (2<=f.At.Kind) then (true,f.Exp==1) else (true,false) else (true,false))=(true,c==1&&(f.Exp==1&&decide (2<=f.At.Kind)))
  cases c==1 <;>cases f.Exp==1 <;>cases decide (2<=f.At.Kind) <;>simp
 | ⟨c,f::g::r⟩::[]=>
  rw [Wy.fin_i];show (bif true then (Wy.i true (Wy.i (c==1) (Wy.i true (Wy.i (Int.ofNat (f::g::r).length==1) _ (.k false)) .d) (.k false)) .d:Wy0 Bool).fin default else _)=(true,c==1&&false)
  simp only [Wy.fin_i,Wy.fin_k,zRA,cond_true,cond_false];cases c==1 <;>rfl
 | t::u::r=>rw [Wy.fin_i,zRA]; rfl
theorem zTu (a b:Nat):decide (a>b)= !decide (a<=b):=by
 by_cases h:a<=b
 ·have:¬ a>b:=by omega
  simp [h,this]
 ·have:a>b:=by omega
  simp [h,this]
def zBB (t:Term):Bool:= !(decide (t.Fs.length>64)||t.Fs.any λf=>decide (f.Exp>64)||decide (f.At.Items.length>1024))
def zhU (a:yC):Bool:=decide (a.length<=512)&&decide (zbJ a<=8)&&decide (zX a<=4096)&&a.all zBB
theorem zbiF (l:yD) (h:l.length<=1000000):zcF l=(true,l.any λf=>decide (f.Exp>64)||decide (f.At.Items.length>1024)):=by
 unfold zcF ziA
 have hw:zdH=z97 (λ(_:Unit) x=>zgp x):=by
  funext x y
  unfold zdH zjI z97 z9M;rw [Fc.eta2]
 have:zc1 l=IG (λ(_:Unit) x=>zgp x) (l.length+(Int.ofNat l.length).toNat +Int.toNat (0:Int)+(1:Nat)) () l:=by
  unfold zc1 zjR zjv;rw [hw]; rfl
 exact zp5 (this.trans (zV2 _ _ _ _ _ (by omega) (λx _=>by
  unfold zgp zzx;rw [Wy.fin_i,Wy.fin_k,Wy.fin_k];have e:decide (Int.ofNat x.At.Items.length>(1024:Int))=decide (x.At.Items.length>1024):=zwj _ 1024;rw [e];cases decide (x.Exp>64) <;>rfl) (by omega)))
theorem zbj7 {d:Nat} {a:yC} (h:zw d a) (hd:d<=100) (hs:zX a<=4611686018427387904):zlP a=(true,zhU a):=by
 obtain ⟨h1,h2⟩:a.length<=1000000/\∀ t∈a,t.Fs.length<=1000000:=by
  cases d with
  | zero=>exact h.elim
  | succ d=>exact ⟨h.1,λt ht=>(h.2 t ht).1⟩
 have h3:zcz a=(true,a.any λt=> !zBB t):=by
  unfold zcz zhZ;have:zdY a=IG (λ(_:Unit) x=>zk4 x) (a.length+(Int.ofNat a.length).toNat +Int.toNat (0:Int)+(1:Nat)) () a:=rfl
  exact zp5 (this.trans (zV2 _ _ _ _ _ (by omega) (λx hx=>by
   unfold zk4 zC3;rw [Wy.fin_i,Wy.fin_k,Wy.fin_bn,zbiF _ (h2 x hx)];have e:decide (Int.ofNat x.Fs.length>(64:Int))=decide (x.Fs.length>64):=zwj _ 64;rw [e];unfold zBB;cases decide (x.Fs.length>64) <;>simp [Wy.fin_k]) (by omega)))
 unfold zlP zGJ;have n1:zAy a=(true,(zbJ a:Int)):=(zbbM 1000 d a h (by omega) hd).1
 have n2:zGg a=(true,(zX a:Int)):=(z7M 1000 d a h (by omega) hs).1
 simp only [Wy.fin_i,Wy.fin_k,Wy.fin_bn,n1,n2,h3,cond_true];have e1:decide (Int.ofNat a.length>(512:Int))= !decide (a.length<=512):=by rw [show decide (Int.ofNat a.length>(512:Int))=decide (a.length>512) from zwj _ 512]; exact zTu _ _
 have e2:decide ((zbJ a:Int)>(8:Int))= !decide (zbJ a<=8):=by rw [show decide ((zbJ a:Int)>(8:Int))=decide (zbJ a>8) from zwj _ 8]; exact zTu _ _
 have e3:decide ((zX a:Int)>(4096:Int))= !decide (zX a<=4096):=by rw [show decide ((zX a:Int)>(4096:Int))=decide (zX a>4096) from zwj _ 4096]; exact zTu _ _
 have e4:(a.any λt=> !zBB t)= !a.all zBB:=by simp [List.all_eq_not_any_not]
 rw [e1,e2,e3,e4];unfold zhU;cases decide (a.length<=512) <;>cases decide (zbJ a<=8) <;>cases decide (zX a<=4096) <;>simp
theorem zbnv (a:yC) (i:Nat) (hi:i<a.length) (hl:(a.getD i default).Fs.length<=1000000) (fuel:Nat) (hf:(a.getD i default).Fs.length<fuel):
  zYu fuel a i 0=(true,bif (a.getD i default).Fs.any λf=>decide (f.Exp>64)||decide (f.At.Items.length>1024) then .inl false else .inr (a,(i:Int))):=by
 have:=zg7 (W:=zKL) (z:=.inl default) (a.getD i default).Fs.length (λk=>(a,(i:Int),(k:Int),())) (λ_=>()) (λk=>(λf:Fc=> !(decide (f.Exp>64)||decide (f.At.Items.length>1024))) ((a.getD i default).Fs.getD k default)) (.inl false) (.inr (a,(i:Int)))
  (λk hk H K D=>by
   show (zyQ a i k).ev H K D=_;unfold zyQ;simp only [Wy.ev_i,Wy.ev_k,Wy.ev_h,Wy.ev_bn,Wy.ev_d,tT,hi,hk];rw [zJ (by omega),show decide ((((a.getD i default).Fs.getD k default).At.Items.length:Int)>(1024:Int))=_ from zwj _ 1024]
   cases decide (((a.getD i default).Fs.getD k default).Exp>64) <;>cases decide (1024<((a.getD i default).Fs.getD k default).At.Items.length) <;>rfl)
  (λH K D=>by
   show (zyQ a i (a.getD i default).Fs.length).ev H K D=_;unfold zyQ;simp only [Wy.ev_i,Wy.ev_k,Wy.ev_h,Wy.ev_bn,Wy.ev_d,tT,hi,Nat.lt_irrefl]) fuel hf
 rw [ztF (λf:Fc=> !(decide (f.Exp>64)||decide (f.At.Items.length>1024)))] at this
 have e:((a.getD i default).Fs.all λf=> !(decide (f.Exp>64)||decide (f.At.Items.length>1024)))= !((a.getD i default).Fs.any λf=>decide (f.Exp>64)||decide (f.At.Items.length>1024)):=by simp [List.all_eq_not_any_not]
 rw [e] at this;refine this.trans ?_;cases (a.getD i default).Fs.any λf=>decide (f.Exp>64)||decide (f.At.Items.length>1024) <;>rfl
theorem zbhI {d:Nat} {a:yC} (h:zw d a) (hd:d<=100) (hs:zX a<=4611686018427387904):zBv a=(true,zhU a):=by
 obtain ⟨h1,h2⟩:a.length<=1000000/\∀ t∈a,t.Fs.length<=1000000:=by
  cases d with
  | zero=>exact h.elim
  | succ d=>exact ⟨h.1,λt ht=>(h.2 t ht).1⟩
 have h3:zX0 ((a.length+Int.toNat (0:Int)+(1:Nat))+zbD a) a 0=(true,bif a.all zBB then .inr () else .inl false):=by
  have:=zg7 (W:=zKb) (z:=.inl default) a.length (λk=>(a,(k:Int),())) (λ_=>()) (λk=>zBB (a.getD k default)) (.inl false) (.inr ())
   (λk hk H K D=>by
    show (zyL a k).ev H K D=_;unfold zyL;have h4:=h2 _ (zI hk);have h5:=zHu a k hk;simp only [Wy.ev_i,Wy.ev_k,Wy.ev_h,Wy.ev_bn,Wy.ev_d,tT,hk];rw [zbnv a k hk h4 _ (by omega)]
    have e:decide (((a.getD k default).Fs.length:Int)>(64:Int))=decide ((a.getD k default).Fs.length>64):=zwj _ 64;rw [e];unfold zBB;cases decide ((a.getD k default).Fs.length>64) <;>cases ((a.getD k default).Fs.any λf=>decide (f.Exp>64)||decide (f.At.Items.length>1024))
    ·simp only [cond_false,cond_true,isL,getR]; rw [zJ (by omega)]; rfl
    all_goals rfl)
   (λH K D=>by
    show (zyL a a.length).ev H K D=_;unfold zyL;simp only [Wy.ev_i,Wy.ev_k,Wy.ev_h,Wy.ev_bn,Wy.ev_d,tT,Nat.lt_irrefl]) ((a.length+Int.toNat (0:Int)+(1:Nat))+zbD a) (by omega)
  rw [ztF] at this;exact this
 unfold zBv z2G;have n1:zKu a=(true,(zbJ a:Int)):=(zbbM 1000 d a h (by omega) hd).2
 have n2:zXm a=(true,(zX a:Int)):=(z7M 1000 d a h (by omega) hs).2
 simp only [Wy.fin_i,Wy.fin_k,Wy.fin_bn,n1,n2,h3,cond_true];have e1:decide (Int.ofNat a.length>(512:Int))= !decide (a.length<=512):=by rw [show decide (Int.ofNat a.length>(512:Int))=decide (a.length>512) from zwj _ 512]; exact zTu _ _
 have e2:decide ((zbJ a:Int)>(8:Int))= !decide (zbJ a<=8):=by rw [show decide ((zbJ a:Int)>(8:Int))=decide (zbJ a>8) from zwj _ 8]; exact zTu _ _
 have e3:decide ((zX a:Int)>(4096:Int))= !decide (zX a<=4096):=by rw [show decide ((zX a:Int)>(4096:Int))=decide (zX a>4096) from zwj _ 4096]; exact zTu _ _
 rw [e1,e2,e3];unfold zhU;cases decide (a.length<=512) <;>cases decide (zbJ a<=8) <;>cases decide (zX a<=4096) <;>cases a.all zBB <;>simp [isL,getL]
def zzp (v:Value):Bool:=(v.Kind==0&&v.Text.size==0)||(v.Kind==1&&v.Int==0&&decide (v.Text.size<=255))||(v.Kind==2&&v.Text.size==0&&(v.Int==0||v.Int==1))
theorem zbem (s:ByteArray):(s.toList==(ByteArray.mk #[]).toList)=(s.size==0):=by
 rw [z2K];by_cases h:s.size=0
 ·have:s=ByteArray.mk #[]:=zII (by
   have:s.data.toList.length=0:=by simpa using h
   rw [List.length_eq_zero_iff.1 this])
  subst this; rfl
 ·have:¬ s=ByteArray.mk #[]:=λe=>h (by rw [e]; rfl)
  simp [h,this]
theorem zUr (v:Value):zup v=(true,zzp v):=by
 unfold zup zX2 zzp;simp only [zbem,Wy.fin_i,Wy.fin_k,zl2,zbba];have e:decide (Int.ofNat v.Text.size<=(255:Int))=decide (v.Text.size<=255):=zqJ _ 255;rw [e];by_cases h0:v.Kind=0
 ·simp [h0]
 ·by_cases h1:v.Kind=1
  ·by_cases h2:v.Int=0 <;>simp [h1,h2]
  ·by_cases h2:v.Kind=2
   ·by_cases h3:v.Int=0
    ·simp [h2,h3]
    ·by_cases h4:v.Int=1 <;>simp [h2,h3,h4]
   ·simp [h0,h1,h2]
theorem zUW (v:Value):zyU v=(true,zzp v):=by
 unfold zyU zXU zzp;simp only [zbem,Wy.fin_i,Wy.fin_k,zl2,zbba];have e:decide (Int.ofNat v.Text.size<=(255:Int))=decide (v.Text.size<=255):=zqJ _ 255;rw [e];by_cases h0:v.Kind=0
 ·simp [h0]
 ·by_cases h1:v.Kind=1
  ·by_cases h2:v.Int=0 <;>simp [h1,h2]
  ·by_cases h2:v.Kind=2
   ·by_cases h3:v.Int=0
    ·by_cases h4:v.Text.size=0 <;>simp [h2,h3,h4]
    ·by_cases h4:v.Text.size=0 <;>simp [h2,h3,h4]
   ·simp [h0,h1,h2]
def zO8 (fn:Int) (b:Value) (w:Wd):Bool:=zzp w.Value&&(w.Value.Kind==b.Kind)&& !(fn==0&&w.Value.Int != 1)
def zAY (fn:Int) (l:yE) (op:Int) (b:Value):Bool:=decide (0<=fn)&&decide (fn<=3)&&decide (5<=op)&&decide (op<=10)&&zzp b&& !(decide (fn<=1)&&b.Kind != 0)&&l.all (zO8 fn b)
theorem zbkG (l:yE) (fn:Int) (b:Value) (h:l.length<=1000000):zbI l b fn=(true, !l.all (zO8 fn b)):=by
 unfold zbI zg5;have:zdt l b fn=IG (λ(g:Value×(Int×Unit)×Unit) x=>zhK x g.1 g.2.1.1) (l.length+fn.toNat +(Int.ofNat l.length).toNat +Int.toNat (0:Int)+(1:Nat)) (b,(fn,()),()) l:=rfl
 have e:(!l.all (zO8 fn b))=l.any λw=> !zO8 fn b w:=by simp [List.all_eq_not_any_not]
 rw [e]
 exact zp5 (this.trans (zV2 _ _ _ _ _ (by omega) (λx _=>by
  show zhK x b fn=_;unfold zhK zB2 zO8;simp only [Wy.fin_i,Wy.fin_k,Wy.fin_bn,zUr,cond_true,zl2,zHG];cases zzp x.Value <;>by_cases h1:x.Value.Kind=b.Kind <;>by_cases h2:fn=0 <;>simp [zl2,zHG,h1,h2]) (by omega)))
theorem zbiR (fn:Int) (l:yE) (op:Int) (b:Value) (h:l.length<=1000000):zkt fn l op b=(true,zAY fn l op b):=by
 unfold zkt zFN zAY;simp only [Wy.fin_i,Wy.fin_k,Wy.fin_bn,zUr,zbkG l fn b h,cond_true,zl2,zHG];by_cases h1:fn<0
 ·have:¬ (0<=fn):=by omega
  simp [h1,this]
 by_cases h2:3<fn
 ·have:¬ (fn<=3):=by omega
  simp [h1,h2,this]
 by_cases h3:op<5
 ·have:¬ (5<=op):=by omega
  simp [h1,h2,h3,this]
 by_cases h4:10<op
 ·have:¬ (op<=10):=by omega
  simp [h1,h2,h3,h4,this]
 have g1:0<=fn:=by omega
 have g2:fn<=3:=by omega
 have g3:5<=op:=by omega
 have g4:op<=10:=by omega
 cases zzp b with
 | false=>simp [h1,h2,h3,h4]
 | true=>
  by_cases h5:fn=0
  ·subst h5; by_cases h6:b.Kind=0 <;>simp [h3,h4,h6,g3,g4]
  ·by_cases h7:fn=1
   ·subst h7; by_cases h6:b.Kind=0 <;>simp [h3,h4,h6,g3,g4]
   ·have:¬ fn<=1:=by omega
    simp [h1,h2,h3,h4,h5,h7,this,g1,g2,g3,g4]
theorem zbfT (fn:Int) (l:yE) (op:Int) (b:Value) (h:l.length<=1000000):zyV fn l op b=(true,zAY fn l op b):=by
 unfold zyV zXH zAY
 have hl:zHe (fn.toNat +l.length+Int.toNat (0:Int)+(1:Nat)) fn l (0:Int) b=(true,bif l.all (zO8 fn b) then .inr () else .inl false):=by
  have:=zg7 (W:=zHY) (z:=.inl default) l.length (λk=>(fn,l,(),(k:Int),())) (λ_=>(b,())) (λk=>zO8 fn b (l.getD k default)) (.inl false) (.inr ())
   (λk hk H K D=>by
    show (zvR fn l k b).ev H K D=_;unfold zvR zO8;simp only [Wy.ev_i,Wy.ev_k,Wy.ev_h,Wy.ev_bn,Wy.ev_d,tT,hk,zUW,zl2,zHG];rw [zJ (by omega)]
    cases zzp (l.getD k default).Value <;>cases decide ((l.getD k default).Value.Kind=b.Kind) <;>cases decide (fn=0) <;>cases decide ((l.getD k default).Value.Int=1) <;>rfl)
   (λH K D=>by
    show (zvR fn l l.length b).ev H K D=_;unfold zvR;simp only [Wy.ev_i,Wy.ev_k,Wy.ev_h,Wy.ev_bn,Wy.ev_d,tT,Nat.lt_irrefl]) (fn.toNat +l.length+Int.toNat (0:Int)+(1:Nat)) (by omega)
  rw [ztF] at this;exact this
 simp only [Wy.fin_i,Wy.fin_k,Wy.fin_bn,zUW,hl,cond_true,zl2,zHG];by_cases h1:fn<0
 ·have:¬ (0<=fn):=by omega
  simp [h1,this]
 by_cases h2:3<fn
 ·have:¬ (fn<=3):=by omega
  simp [h1,h2,this]
 by_cases h3:op<5
 ·have:¬ (5<=op):=by omega
  simp [h1,h2,h3,this]
 by_cases h4:10<op
 ·have:¬ (op<=10):=by omega
  simp [h1,h2,h3,h4,this]
 have g1:0<=fn:=by omega
 have g2:fn<=3:=by omega
 have g3:5<=op:=by omega
 have g4:op<=10:=by omega
 cases zzp b with
 | false=>simp [h1,h2,h3,h4]
 | true=>
  by_cases h5:fn<=1
  ·by_cases h6:b.Kind=0
   ·cases l.all (zO8 fn b) <;>simp [h1,h2,h3,h4,h5,h6,g1,g2,g3,g4,isL,getL]
   ·simp [h1,h2,h3,h4,h5,h6,g1,g2,g3,g4]
  ·cases l.all (zO8 fn b) <;>simp [h1,h2,h3,h4,h5,g1,g2,g3,g4,isL,getL]
def bz (b:Value):Bool:=b.Kind==(0:Int)&&(b.Int==(0:Int)&&(b.Text.toList==(ByteArray.mk #[]).toList&&true))
def plA (x:At):Bool:=x.Func==0&&(x.Items.length==0)&&x.Op==0&&bz x.Bd
theorem zbkw (x:At):zp4 x=(true,plA x):=by
 unfold zp4 zXM plA;simp only [Wy.fin_i,Wy.fin_k,Int.ofNat_eq_natCast,i0];show _=(true,_&&_&&_&&bz x.Bd);rw [show (x.Bd.Kind==(0:Int)&&(x.Bd.Int==(0:Int)&&(x.Bd.Text.toList==(ByteArray.mk #[]).toList&&true)))=bz x.Bd from rfl]
 cases x.Func==0 <;>cases x.Items.length==0 <;>cases x.Op==0 <;>rfl
def z2H (l:yE) (k:Nat):Bool:=decide (k=0)||decide (zbq (zbx (l.getD (k - 1) default)) (zbx (l.getD k default))<=0)
def z7n (l:yE):Bool:=zka (z2H l) l.length 0
theorem zbc2 (c:Nat->Bool):∀ n i,zka c (n+1) i=(zka c n i&&c (i+n))
 | 0,i=>by simp [zka]
 | n+1,i=>by
  rw [zka,zbc2 c n (i+1),zka,show i+1+n=i+(n+1) by omega,Bool.and_assoc]
theorem zYn {d:Nat} (l:yE) (hl:l.length<=1000000) (h:∀ w∈l,zw d w.Ann) (hd:d<=99):∀ (n i:Nat),i<l.length->i<n->zeB n l i=(true,bif zka (z2H l) (i+1) 0 then .inr () else .inl false)
 | 0,i,hi,hn=>by omega
 | n+1,i,hi,hn=>by
  show (zeC l i).ev (λx y=>zeB n x.1 x.2.2.1) (λr=>(true,r)) (false,.inl default)=_
  unfold zeC;have hg:decide ((i:Int)>(0:Int))=decide (0<i):=zwj i 0;cases i with
  | zero=>simp [Wy.ev_i,Wy.ev_k,zka,z2H]
  | succ i=>
   have hi':i<l.length:=by omega
   have hw:IntKind.i64.wrap (((i+1:Nat):Int) - 1)=(i:Int):=by rw [zno (by omega) (by omega)]; rfl
   have hp:decide (0<i+1)=true:=by simp
   simp only [Wy.ev_i,Wy.ev_k,Wy.ev_h,Wy.ev_bn,Wy.ev_d,hg,hp,hw,tT,hi,hi',zon (h _ (zI hi)) hd];rw [zYn l hl h hd n i hi' (by omega),zbc2 _ (i+1),Nat.zero_add]
   have:z2H l (i+1)= !decide (zbq (zbx (l.getD (i+1) default)) (zbx (l.getD i default))<0):=by
    unfold z2H;rw [show i+1 - 1=i from rfl,zir (zbx (l.getD (i+1) default)) (zbx (l.getD i default))]
    generalize zbq (zbx (l.getD (i+1) default)) (zbx (l.getD i default))=z;by_cases hz:z<0
    ·have:¬ (-z<=0):=by omega
     simp [hz,this]
    ·have:(-z<=0):=by omega
     simp [hz,this]
   rw [this];cases decide (zbq (zbx (l.getD (i+1) default)) (zbx (l.getD i default))<0) <;>simp
theorem zbgB {d:Nat} (l:yE) (hl:l.length<=1000000) (h:∀ w∈l,zw d w.Ann) (hd:d<=99):zcv l=(true,z7n l):=by
 unfold zcv zii z7n
 match l,hl,h with
 | [],_,_=>rfl
 | x::r,hl,h=>
  have hw:IntKind.i64.wrap (Int.ofNat (x::r).length - 1)=(r.length:Int):=by
   rw [qf] at hl;rw [show Int.ofNat (x::r).length=(((x::r).length:Nat):Int) from rfl,zno (by simp) (by simp; omega)]; rfl
  rw [Wy.fin_bn,hw,zYn (x::r) hl h hd _ r.length (by simp) (by simp; omega)]
  cases zka (z2H (x::r)) (r.length+1) 0 with
  | true=>simp [Wy.fin_i,Wy.fin_k,isL]
  | false=>simp [Wy.fin_i,Wy.fin_k,isL,getL]
def rz (r:RowID):Bool:=r.Table==(0:Int)&&(r.Seq==(0:Int)&&true)
def zrx (V:yC->Bool) (l:yA):Bool:=l.all λa=>V a&& !(a.length==0)
def zEs (V:yC->Bool) (l:yE):Bool:=l.all λw=>V w.Ann&& !(w.Ann.length==0)
def zBH (r:RowID):Bool:=decide (r.Table≥1)&&decide (r.Seq≥1)
def zIt (p:yC->Bool):yA->Bool
 | [a]=>p a
 | _=>false
def z9Y (p:yC->yC->Bool):yA->Bool
 | [a,b]=>p a b
 | _=>false
def zeG (V:yC->Bool) (x:At):Bool:=
 zrx V x.Ag&&
 if x.Kind=0 then plA x&&zBH x.Row&&(x.Ag.length==0)
 else rz x.Row&&
  if x.Kind=1 then plA x&&z9Y (λa b=> !decide (a=b)) x.Ag
  else if x.Kind=2 then plA x&&zIt (λa=> !isC a&& !isU a) x.Ag
  else if x.Kind=3 then plA x&&zIt (λa=> !zzh a) x.Ag
  else if x.Kind=4 then (x.Ag.length==0)&&decide (0<x.Items.length)&&zEs V x.Items&&z7n x.Items&&zAY x.Func x.Items x.Op x.Bd
  else false
def zSE (vat:At->Bool) (fs:yD) (k:Nat):Bool:=
 decide (1<=(fs.getD k default).Exp)&& !(((fs.getD k default).At.Kind==3||(fs.getD k default).At.Kind==4)&&(fs.getD k default).Exp != 1)&&
  (decide (k=0)||decide (zbq (zet (fs.getD (k - 1) default).At) (zet (fs.getD k default).At)<0))&&vat (fs.getD k default).At
def okF (vat:At->Bool) (fs:yD):Bool:=zka (zSE vat fs) fs.length 0
def zFX (vat:At->Bool) (a:yC) (i:Nat):Bool:=
 decide (1<=(a.getD i default).Cf)&&decide ((a.getD i default).Cf<=1152921504606846976)&&
  (decide (i=0)||decide (zbV (zbW (a.getD (i - 1) default).Fs) (zbW (a.getD i default).Fs)<0))&&okF vat (a.getD i default).Fs
def zxN (vat:At->Bool) (a:yC):Bool:=zhU a&&zka (zFX vat a) a.length 0
def zbR:Nat->yC->Bool
 | 0,_=>false
 | n+1,a=>zxN (zeG (zbR n)) a
theorem zQ2 (r:RowID):zqS r=(true,zBH r):=by
 unfold zqS zTC zBH;rw [Wy.fin_i,Wy.fin_k,Wy.fin_k];cases decide (r.Table≥1) <;>rfl
theorem zBy {V:yC->Bool} {x:At} (h:zeG V x=true):0<=x.Kind/\x.Kind<=4:=by
 unfold zeG at h;by_cases h0:x.Kind=0
 ·omega
 by_cases h1:x.Kind=1
 ·omega
 by_cases h2:x.Kind=2
 ·omega
 by_cases h3:x.Kind=3
 ·omega
 by_cases h4:x.Kind=4
 ·omega
 simp [h0,h1,h2,h3,h4] at h
theorem zzs (l k:Nat):((Int.ofNat l)==(k:Int))=(l==k):=by
 rw [zl2,zbba]; congr 1; simp; omega
section
variable (V:yC->Bool) (gW:yE->Bool×Bool) (gA:yA->Bool×Bool) (c1:yC->Bool×Bool) (c2:Wd->Bool×Bool)
theorem zba1 (x:At) {d:Nat} (hx:zel (zw d) x) (hd:d<=99) (hA:gA x.Ag=(true, !zrx V x.Ag)) (hW:gW x.Items=(true, !zEs V x.Items)):
  zjT gA c1 gW c2 x=(true,zeG V x):=by
 have hS:=zbgB x.Items hx.1.2.1 (λw hw=>(hx.2.2 w hw).2) hd
 have hF:=zbiR x.Func x.Items x.Op x.Bd hx.1.2.1;have hE:∀ a∈x.Ag,∀ b,zih a b=(true,decide (a=b)):=λa ha b=>zY9 (hx.2.1 a ha) (by omega) b
 have hC:∀ a∈x.Ag,zfd a=(true,zzh a):=λa ha=>zbbD a (by
  have:=hx.2.1 a ha;cases d with
  | zero=>exact this.elim
  | succ d=>have:=this.1; omega)
 obtain ⟨k,r,l,f,its,o,b⟩:=x;simp only at hA hW hS hF hE hC;unfold zjT zco zeG plA;simp only [zQ2,hA,hW,hS,hF,Wy.fin_i,Wy.fin_k,Wy.fin_bn,cond_true]
 rw [show (b.Kind==(0:Int)&&(b.Int==(0:Int)&&(b.Text.toList==(ByteArray.mk #[]).toList&&true)))=bz b from rfl,
  show (r.Table==(0:Int)&&(r.Seq==(0:Int)&&true))=rz r from rfl,
  show (Int.ofNat its.length != 0)= !(its.length==0) from congrArg not (zzs its.length 0),show (f != 0)= !(f==0) from rfl,show (o != 0)= !(o==0) from rfl]
 generalize zrx V l=A at *;generalize zEs V its=W at *;generalize bz b=B at *;generalize (f==0)=F at *;generalize (o==0)=O at *;generalize rz r=R at *;generalize zBH r=RO at *;generalize z7n its=S at *;generalize zAY f its o b=K at *;have hgt:decide (Int.ofNat its.length>0)=decide (0<its.length):=zwj its.length 0;rw [hgt];generalize (its.length==0)=I at *;generalize decide (0<its.length)=J at *;by_cases h0:k=0
 ·subst h0;simp only [zzs,show ((Int.ofNat l.length)==(0:Int))=(l.length==0) from zzs l.length 0]
  generalize (l.length==0)=L;cases F <;>cases I <;>cases O <;>cases B <;>cases A <;>cases RO <;>rfl
 by_cases h1:k=1
 ·subst h1
  match l,hE with
  | [],_=>cases F <;>cases I <;>cases O <;>cases B <;>cases A <;>cases R <;>rfl
  | [u],_=>cases F <;>cases I <;>cases O <;>cases B <;>cases A <;>cases R <;>rfl
  | [u,v],hE=>
   have e:=hE u (by simp) v
   simp only [List.getD,qf,List.length_nil,Int.toNat_zero,List.getElem?_cons_zero,List.getElem?_cons_succ,Option.getD,show Int.toNat 1=1 from rfl,z9Y]
   simp only [e];generalize decide (u=v)=E;cases F <;>cases I <;>cases O <;>cases B <;>cases A <;>cases R <;>rfl
  | u::v::w::l,_=>
   have e:((Int.ofNat (u::v::w::l).length)==(2:Int))=false:=by rw [beq_eq_false_iff_ne]; simp; omega
   simp only [e];cases F <;>cases I <;>cases O <;>cases B <;>cases A <;>cases R <;>rfl
 by_cases h2:k=2
 ·subst h2
  match l with
  | []=>cases F <;>cases I <;>cases O <;>cases B <;>cases A <;>cases R <;>rfl
  | [u]=>
   simp only [List.getD,qf,List.length_nil,Int.toNat_zero,List.getElem?_cons_zero,Option.getD,zIt,zbdU,zbj0];generalize isC u=E;generalize isU u=E';cases F <;>cases I <;>cases O <;>cases B <;>cases A <;>cases R <;>cases E <;>cases E' <;>rfl
  | u::v::l=>
   simp only [zRA];cases F <;>cases I <;>cases O <;>cases B <;>cases A <;>cases R <;>rfl
 by_cases h3:k=3
 ·subst h3
  match l,hC with
  | [],_=>cases F <;>cases I <;>cases O <;>cases B <;>cases A <;>cases R <;>rfl
  | [u],hC=>
   have e:=hC u (by simp)
   simp only [List.getD,qf,List.length_nil,Int.toNat_zero,List.getElem?_cons_zero,Option.getD,zIt];simp only [e];generalize zzh u=E;cases F <;>cases I <;>cases O <;>cases B <;>cases A <;>cases R <;>cases E <;>rfl
  | u::v::l,_=>
   simp only [zRA];cases F <;>cases I <;>cases O <;>cases B <;>cases A <;>cases R <;>rfl
 by_cases h4:k=4
 ·subst h4;simp only [show ((Int.ofNat l.length)==(0:Int))=(l.length==0) from zzs l.length 0]
  generalize (l.length==0)=L;cases A <;>cases W <;>cases L <;>cases J <;>cases S <;>cases K <;>cases R <;>rfl
 simp only [zl2,h0,h1,h2,h3,h4,decide_false,if_false,cond_false];cases F <;>cases I <;>cases O <;>cases B <;>cases A <;>cases R <;>rfl
end
section
variable (V:yC->Bool) (g:yC->Bool×Bool)
theorem zbou (x:At) (hl:x.Ag.length<=1000000) (hg:∀ a∈x.Ag,g a=(true,V a)) (n:Nat) (hn:x.Ag.length<n):zxy g n 0 x=(true,bif zrx V x.Ag then .inr x else .inl false):=by
 have:=zg7 (W:=zxm g) (z:=.inl default) x.Ag.length (λi=>((),(i:Int),())) (λ_=>(x,())) (λi=>(λa:yC=>V a&& !(a.length==0)) (x.Ag.getD i default)) (.inl false) (.inr x)
  (λi hi H K D=>by
   show (zll g i x).ev H K D=_;unfold zll;have hL:decide ((i:Int)<Int.ofNat x.Ag.length)=true:=by simp [hi]
   simp only [Wy.ev_i,Wy.ev_k,Wy.ev_h,Wy.ev_bn,Wy.ev_d,hL,zbc,Bool.and_self,cond_true,Int.toNat_natCast,hg _ (zI hi)];rw [zJ (by omega),show (Int.ofNat (x.Ag.getD i default).length==(0:Int))=((x.Ag.getD i default).length==0) from zzs _ 0]
   cases V (x.Ag.getD i default) <;>cases ((x.Ag.getD i default).length==0) <;>rfl)
  (λH K D=>by
   show (zll g x.Ag.length x).ev H K D=_;unfold zll;have hL:decide ((x.Ag.length:Int)<Int.ofNat x.Ag.length)=false:=by simp
   simp only [Wy.ev_i,Wy.ev_k,hL,cond_false]) n hn
 rw [ztF (λa:yC=>V a&& !(a.length==0))] at this
 exact this
theorem zbed {τ:Type} [Inhabited τ] (l:List τ) (i:Nat) (h:i<l.length):List.take 1 (List.drop i l)=[l.getD i default]:=by
 rw [zY h]; rfl
theorem zblL (x y:TT):zbV [x] [y]=zbq x y:=by
 simp only [zbV];split
 ·rename_i h; exact h.symm
 ·rfl
theorem zboh (x:At) {d:Nat} (hx:zel (zw d) x) (hd:d<=99) (hg:∀ a∈x.Items,g a.Ann=(true,V a.Ann)) (n:Nat) (hn:x.Items.length<n):zEt g n 0 x=(true,bif zEs V x.Items&&z7n x.Items then .inr () else .inl false):=by
 have hl:x.Items.length<=1000000:=hx.1.2.1
 have:=zg7 (W:=zvS g) (z:=.inl default) x.Items.length (λi=>((),(i:Int),())) (λ_=>(x,())) (λi=>(λw:Wd=>V w.Ann&& !(w.Ann.length==0)) (x.Items.getD i default)&&z2H x.Items i) (.inl false) (.inr ())
  (λi hi H K D=>by
   show (zkw g i x).ev H K D=_;unfold zkw;have hL:decide ((i:Int)<Int.ofNat x.Items.length)=true:=by simp [hi]
   simp only [Wy.ev_i,Wy.ev_k,Wy.ev_h,Wy.ev_bn,Wy.ev_d,hL,zbc,Bool.and_self,cond_true,Int.toNat_natCast,hg _ (zI hi)];rw [zJ (by omega),show (Int.ofNat (x.Items.getD i default).Ann.length==(0:Int))=((x.Items.getD i default).Ann.length==0) from zzs _ 0]
   cases V (x.Items.getD i default).Ann <;>cases ((x.Items.getD i default).Ann.length==0) <;>try rfl
   simp only [cond_true,cond_false,Bool.not_true,Bool.not_false,Bool.and_self,Bool.true_and];cases i with
   | zero=>rfl
   | succ i=>
    have hi':i<x.Items.length:=by omega
    have hw:IntKind.i64.wrap (((i+1:Nat):Int) - 1)=(i:Int):=by rw [zno (by omega) (by omega)]; rfl
    have e1:(decide ((0:Int)<=(i:Int))&&decide ((i:Int)<=((i+1:Nat):Int))&&decide (((i+1:Nat):Int)<=Int.ofNat x.Items.length))=true:=by
     simp; try omega
    have e2:(decide (((i+1:Nat):Int)<=((i+1+1:Nat):Int))&&decide (((i+1+1:Nat):Int)<=Int.ofNat x.Items.length))=true:=by
     simp; try omega
    have e3:decide (((i+1:Nat):Int)>0)=true:=by simp; try omega
    simp only [hw,e1,e2,e3,cond_true,Bool.true_and,Int.toNat_natCast,show i+1 - i=1 by omega,show i+1+1 - (i+1)=1 by omega,zbed _ _ hi,zbed _ _ hi']
    rw [zEw (d:=d) (by simp) (λw hw=>by
     rw [qh] at hw; subst hw; exact (hx.2.2 _ (zI hi')).2) hd,zmP,zmP]
    simp only [List.map,zblL,cond_true,z2H,show i+1 - 1=i from rfl]
    have e4:decide (i+1=0)=false:=by simp
    rw [e4,Bool.false_or];generalize zbq (zbx (x.Items.getD i default)) (zbx (x.Items.getD (i+1) default))=z;by_cases hz:z>0
    ·have:¬ z<=0:=by omega
     simp only [hz,this,decide_true,decide_false,cond_true,cond_false]
    ·have:z<=0:=by omega
     simp only [hz,this,decide_true,decide_false,cond_true,cond_false])
  (λH K D=>by
   show (zkw g x.Items.length x).ev H K D=_;unfold zkw;have hL:decide ((x.Items.length:Int)<Int.ofNat x.Items.length)=false:=by simp
   simp only [Wy.ev_i,Wy.ev_k,hL,cond_false]) n hn
 rw [zbfB (λi=>(λw:Wd=>V w.Ann&& !(w.Ann.length==0)) (x.Items.getD i default)),ztF (λw:Wd=>V w.Ann&& !(w.Ann.length==0))] at this
 exact this
theorem z3t {A ρ:Type} (s:A) (k:A->Wy0 ρ) (z:ρ):(Wy.bn (true,s) k).fin z=(k s).fin z:=rfl
theorem z71 (x:At) {d:Nat} (hx:zel (zw d) x) (hd:d<=99) (h10:x.Items.length<=1024) (hV:∀ a,V a=true->isB a=isU a) (hgA:∀ a∈x.Ag,g a=(true,V a)) (hgI:∀ a∈x.Items,g a.Ann=(true,V a.Ann)):
  zoY g x=(true,zeG V x):=by
 have hS:=λn hn=>zboh V g x hx hd hgI n hn
 have hA:=λn hn=>zbou V g x hx.1.1 hgA n hn
 have hF:=zbfT x.Func x.Items x.Op x.Bd hx.1.2.1;have hE:∀ a∈x.Ag,∀ b,zua a b=(true,decide (a=b)):=λa ha b=>zX7 (hx.2.1 a ha) (by omega) b
 have hC:∀ a∈x.Ag,ziV a=(true,zzh a):=λa ha=>zCG a (by
  have:=hx.2.1 a ha;cases d with
  | zero=>exact this.elim
  | succ d=>have:=this.1; omega)
 have hP:=zbkw x;unfold zoY zGL zeG;obtain ⟨s,hs1,hs2⟩:∃ s,zxy g (Int.toNat (0:Int)+x.Ag.length+x.Items.length+(1:Nat)) 0 x=(true,s)/\s=bif zrx V x.Ag then .inr x else .inl false:=⟨_,hA _ (by omega),rfl⟩
 rw [At.eta,hP,hs1];simp only [Wy.fin_i,Wy.fin_k,z3t];simp only [Wy.fin_i,Wy.fin_k,Wy.fin_bn,cond_true];rw [show (x.Row.Table==(0:Int)&&(x.Row.Seq==(0:Int)&&true))=rz x.Row from rfl]
 have b0:(x.Kind==(0:Int))=decide (x.Kind=0):=zl2 _ _;have b1:(x.Kind==(1:Int))=decide (x.Kind=1):=zl2 _ _;have b2:(x.Kind==(2:Int))=decide (x.Kind=2):=zl2 _ _;have b3:(x.Kind==(3:Int))=decide (x.Kind=3):=zl2 _ _;have b4:(x.Kind==(4:Int))=decide (x.Kind=4):=zl2 _ _;by_cases h0:x.Kind=0
 ·rw [b0];simp only [h0,decide_true,cond_true,if_true];rw [show (Int.ofNat x.Ag.length==(0:Int))=(x.Ag.length==0) from zzs _ 0]
  unfold zBH
  match hl:x.Ag with
  | []=>cases decide (x.Row.Table≥1) <;>cases decide (x.Row.Seq≥1) <;>cases plA x <;>rfl
  | u::l=>cases decide (x.Row.Table≥1) <;>cases decide (x.Row.Seq≥1) <;>cases plA x <;>cases zrx V (u::l) <;>rfl
 rw [b0];simp only [h0,decide_false,cond_false,if_false];cases hA:zrx V x.Ag with
 | false=>rw [hs2,hA]; cases rz x.Row <;>rfl
 | true=>
 rw [hA,cond_true] at hs2;have hy:getR s=x:=by rw [hs2]; rfl
 have hy2:isL s=false:=by rw [hs2]; rfl
 rw [hy2];generalize getR s=y at hy ⊢;subst hy;cases rz y.Row with
 | false=>rfl
 | true=>
 simp only [Bool.not_true,cond_false,cond_true,isL,getR,Bool.true_and,At.eta,hP,hF,b1,b2,b3,b4];by_cases h1:y.Kind=1
 ·simp only [h1,decide_true,cond_true,if_true]
  match hl:y.Ag with
  | []=>cases plA y <;>rfl
  | [u]=>cases plA y <;>rfl
  | [u,v]=>
   have e:=hE u (by rw [hl]; simp) v
   simp only [List.getD,qf,List.length_nil,Int.toNat_zero,List.getElem?_cons_zero,List.getElem?_cons_succ,Option.getD,show Int.toNat 1=1 from rfl,z9Y]
   simp only [e];generalize decide (u=v)=E;cases plA y <;>rfl
  | u::v::w::l=>
   have e:((Int.ofNat (u::v::w::l).length)==(2:Int))=false:=by rw [beq_eq_false_iff_ne]; simp; omega
   simp only [e];cases plA y <;>rfl
 simp only [h1,decide_false,cond_false,if_false];by_cases h2:y.Kind=2
 ·simp only [h2,decide_true,cond_true,if_true]
  match hl:y.Ag with
  | []=>cases plA y <;>rfl
  | [u]=>
   have e:=hC u (by rw [hl]; simp)
   have eV:V u=true:=by
    rw [hl] at hA;unfold zrx at hA;simp at hA;exact hA.1
   simp only [List.getD,qf,List.length_nil,Int.toNat_zero,List.getElem?_cons_zero,Option.getD,zIt,zQC,e,hV u eV]
   match u with
   | []=>cases plA y <;>rfl
   | [t]=>
    have e1:zzh [t]=(t.Fs.length==0):=by simp [zzh]
    have e2:isC [t]=(t.Fs.length==0):=rfl;rw [e1,e2];cases plA y <;>cases (t.Fs.length==0) <;>cases isU [t] <;>rfl
   | t::s::r=>
    simp only [zRA];cases plA y <;>rfl
  | u::v::l=>
   simp only [zRA];cases plA y <;>rfl
 simp only [h2,decide_false,cond_false,if_false];by_cases h3:y.Kind=3
 ·simp only [h3,decide_true,cond_true,if_true]
  match hl:y.Ag with
  | []=>cases plA y <;>rfl
  | [u]=>
   have e:=hC u (by rw [hl]; simp)
   simp only [List.getD,qf,List.length_nil,Int.toNat_zero,List.getElem?_cons_zero,Option.getD,zIt];simp only [e];cases plA y <;>cases zzh u <;>rfl
  | u::v::l=>
   simp only [zRA];cases plA y <;>rfl
 simp only [h3,decide_false,cond_false,if_false];by_cases h4:y.Kind=4
 ·have e10:decide (Int.ofNat y.Items.length>(1024:Int))=false:=by simp; omega
  rw [hS _ (by omega)]
  rw [e10];simp only [h4,decide_true,cond_true,if_true,cond_false];rw [show (Int.ofNat y.Ag.length != (0:Int))= !(y.Ag.length==0) from congrArg not (zzs y.Ag.length 0),show (Int.ofNat y.Items.length==(0:Int))=(y.Items.length==0) from zzs y.Items.length 0]
  have e11:decide (0<y.Items.length)= !(y.Items.length==0):=by
   rw [zbba];by_cases h:y.Items.length=0
   ·simp [h]
   ·have:0<y.Items.length:=by omega
    simp [h,this]
  rw [e11];cases (y.Ag.length==0) <;>cases (y.Items.length==0) <;>cases zAY y.Func y.Items y.Op y.Bd <;>cases zEs V y.Items <;>cases z7n y.Items <;>rfl
 simp only [h4,decide_false,cond_false,if_false]
end
section
variable (V:yC->Bool) (vat:At->Bool)
theorem V_9 (g:At->Bool×Bool) (a t10:yC) (t11 t12:Int) (t:Term) {d:Nat} (ht:zf3 (zw d) t.Fs) (hd:d<=99) (hg:∀ f∈t.Fs,g f.At=(true,vat f.At)) (n:Nat) (hn:t.Fs.length<n):
  zvI g n a t10 t11 t12 t.Fs t.Fs.length 0 t=(true,bif okF vat t.Fs then .inr (a,t10,t11,t12) else .inl false):=by
 have hl:=ht.1
 exact zg7 (W:=zwu g) (z:=.inl default) t.Fs.length (λk=>(a,(),t10,t11,t12,t.Fs,(t.Fs.length:Int),(k:Int),())) (λ_=>(t,())) (zSE vat t.Fs) (.inl false) (.inr (a,t10,t11,t12))
  (λk hk H K D=>by
   show (zkk g a t10 t11 t12 t.Fs t.Fs.length k t).ev H K D=_;unfold zkk zSE
   have hgt:decide ((k:Int)>0)= !decide (k=0):=by
    by_cases h:k=0
    ·subst h; rfl
    ·have:0<k:=by omega
     simp [h,this]
   simp only [At.eta,Wy.ev_i,Wy.ev_k,Wy.ev_h,Wy.ev_bn,Wy.ev_d,tT,hk,zbhU,hg _ (zI hk),hgt];rw [zJ (by omega)]
   have e1:decide ((t.Fs.getD k default).Exp<1)= !decide (1<=(t.Fs.getD k default).Exp):=by
    by_cases h:1<=(t.Fs.getD k default).Exp
    ·have:¬ (t.Fs.getD k default).Exp<1:=by omega
     simp only [h,this,decide_true,decide_false,Bool.not_true]
    ·have:(t.Fs.getD k default).Exp<1:=by omega
     simp only [h,this,decide_true,decide_false,Bool.not_false]
   rw [e1];generalize decide (1<=(t.Fs.getD k default).Exp)=E1;generalize ((t.Fs.getD k default).Exp != 1)=E2;generalize ((t.Fs.getD k default).At.Kind==3||(t.Fs.getD k default).At.Kind==4)=E3;by_cases h0:k=0
   ·simp only [h0,decide_true,Bool.not_true,cond_false,Bool.true_or,Bool.and_true];cases E1 <;>cases E2 <;>cases E3 <;>cases vat (t.Fs.getD 0 default).At <;>rfl
   ·have hp:IntKind.i64.wrap ((k:Int) - 1)=((k - 1:Nat):Int):=zno (by omega) (by omega)
    have hk':k - 1<t.Fs.length:=by omega
    have hfx:zel (zw d) (t.Fs.getD (k - 1) default).At:=ht.2 _ (zI hk')
    have e2:∀ z:Int,decide (z≥0)= !decide (z<0):=λz=>by
     by_cases h:z<0
     ·have:¬ z≥0:=by omega
      simp [h,this]
     ·have:z≥0:=by omega
      simp [h,this]
    simp only [h0,hp,tT,hk',zKM hfx hd,e2,Bool.false_or];generalize decide (zbq (zet (t.Fs.getD (k - 1) default).At) (zet (t.Fs.getD k default).At)<0)=E4;cases E1 <;>cases E2 <;>cases E3 <;>cases E4 <;>cases vat (t.Fs.getD k default).At <;>rfl)
  (λH K D=>by
   show (zkk g a t10 t11 t12 t.Fs t.Fs.length t.Fs.length t).ev H K D=_;unfold zkk;simp only [Wy.ev_i,Wy.ev_k,tT,Nat.lt_irrefl]) n hn
theorem V_4 (g:At->Bool×Bool) (a:yC) {d:Nat} (h:zw (d+1) a) (hd:d<=99) (hg:∀ t∈a,∀ f∈t.Fs,g f.At=(true,vat f.At)) (n:Nat) (hn:a.length<n):
  zEc g n a a a.length 0=(true,bif zka (zFX vat a) a.length 0 then .inr () else .inl false):=by
 have hl:=h.1
 exact zg7 (W:=zvB g) (z:=.inl default) a.length (λk=>(a,a,(a.length:Int),(k:Int),())) (λ_=>()) (zFX vat a) (.inl false) (.inr ())
  (λk hk H K D=>by
   show (zkB g a a a.length k).ev H K D=_;unfold zkB zFX;have ht:=h.2 _ (zI hk)
   have hgt:decide ((k:Int)>0)= !decide (k=0):=by
    by_cases h:k=0
    ·subst h; rfl
    ·have:0<k:=by omega
     simp [h,this]
   simp only [At.eta,Wy.ev_i,Wy.ev_k,Wy.ev_h,Wy.ev_bn,Wy.ev_d,tT,hk,hgt];rw [V_9 vat g a a a.length k _ ht hd (hg _ (zI hk)) _ (by omega)]
   have e1:decide ((a.getD k default).Cf<1)= !decide (1<=(a.getD k default).Cf):=by
    by_cases h:1<=(a.getD k default).Cf
    ·have:¬ (a.getD k default).Cf<1:=by omega
     simp only [h,this,decide_true,decide_false,Bool.not_true]
    ·have:(a.getD k default).Cf<1:=by omega
     simp only [h,this,decide_true,decide_false,Bool.not_false]
   have e3:decide ((a.getD k default).Cf>1152921504606846976)= !decide ((a.getD k default).Cf<=1152921504606846976):=by
    by_cases h:(a.getD k default).Cf<=1152921504606846976
    ·have:¬ (a.getD k default).Cf>1152921504606846976:=by omega
     simp only [h,this,decide_true,decide_false,Bool.not_true]
    ·have:(a.getD k default).Cf>1152921504606846976:=by omega
     simp only [h,this,decide_true,decide_false,Bool.not_false]
   rw [e1,e3];generalize decide (1<=(a.getD k default).Cf)=E1;generalize decide ((a.getD k default).Cf<=1152921504606846976)=E2;by_cases h0:k=0
   ·subst h0;simp only [decide_true,Bool.not_true,cond_false,Bool.true_or,Bool.and_true];cases okF vat (a.getD 0 default).Fs <;>cases E1 <;>cases E2 <;>try rfl
   ·have hp:IntKind.i64.wrap ((k:Int) - 1)=((k - 1:Nat):Int):=zno (by omega) (by omega)
    have hk':k - 1<a.length:=by omega
    have hfx:zf3 (zw d) (a.getD (k - 1) default).Fs:=h.2 _ (zI hk')
    have e2:∀ z:Int,decide (z≥0)= !decide (z<0):=λz=>by
     by_cases h:z<0
     ·have:¬ z≥0:=by omega
      simp [h,this]
     ·have:z≥0:=by omega
      simp [h,this]
    simp only [h0,hp,tT,hk',zKQ hfx hd,e2,Bool.false_or];generalize decide (zbV (zbW (a.getD (k - 1) default).Fs) (zbW (a.getD k default).Fs)<0)=E4;cases okF vat (a.getD k default).Fs <;>cases E1 <;>cases E2 <;>cases E4 <;>try rfl
    simp only [cond_true,cond_false,Bool.not_true,isL,getR,Bool.and_self];rw [zJ (by omega),decide_eq_false (show ¬ ((k - 1:Nat):Int)<0 by omega)]; rfl)
  (λH K D=>by
   show (zkB g a a a.length a.length).ev H K D=_;unfold zkB;simp only [Wy.ev_i,Wy.ev_k,tT,Nat.lt_irrefl]) n hn
theorem zbiQ (g:At->Bool×Bool) (a:yC) {d:Nat} (h:zw (d+1) a) (hd:d<=99) (hs:zX a<=4611686018427387904) (hg:∀ t∈a,∀ f∈t.Fs,g f.At=(true,vat f.At)):znx g a=(true,zxN vat a):=by
 unfold znx zFo zxN;have:=V_4 vat g a h hd hg (a.length+a.length+(Int.ofNat a.length).toNat +Int.toNat (0:Int)+(1:Nat)) (by omega)
 rw [show Int.ofNat a.length=(a.length:Int) from rfl] at *
 simp only [Wy.fin_i,Wy.fin_k,Wy.fin_bn,zbj7 h (by omega) hs,this,cond_true]
 cases zhU a <;>cases zka (zFX vat a) a.length 0 <;>rfl
theorem zboB (g:At->Bool×Bool) (a:yC) (i:Int) (t:Term) {d:Nat} (ht:zf3 (zw d) t.Fs) (hd:d<=99) (hg:∀ f∈t.Fs,g f.At=(true,vat f.At)) (hk:∀ x,vat x=true->0<=x.Kind/\x.Kind<=4) (n:Nat) (hn:t.Fs.length<n):
  zCt g n a i 0 t=(true,bif okF vat t.Fs then .inr (a,i) else .inl false):=by
 have hl:=ht.1
 exact zg7 (W:=zCp g) (z:=.inl default) t.Fs.length (λk=>(a,i,(),(k:Int),())) (λ_=>(t,())) (zSE vat t.Fs) (.inl false) (.inr (a,i))
  (λk hk1 H K D=>by
   show (zoZ g a i k t).ev H K D=_;unfold zoZ zSE
   have hgt:decide ((k:Int)>0)= !decide (k=0):=by
    by_cases h:k=0
    ·subst h; rfl
    ·have:0<k:=by omega
     simp [h,this]
   simp only [At.eta,Wy.ev_i,Wy.ev_k,Wy.ev_h,Wy.ev_bn,Wy.ev_d,tT,hk1,hg _ (zI hk1),hgt];rw [zJ (by omega)]
   have hk2:=hk (t.Fs.getD k default).At
   have e1:decide ((t.Fs.getD k default).Exp<1)= !decide (1<=(t.Fs.getD k default).Exp):=by
    by_cases h:1<=(t.Fs.getD k default).Exp
    ·have:¬ (t.Fs.getD k default).Exp<1:=by omega
     simp only [h,this,decide_true,decide_false,Bool.not_true]
    ·have:(t.Fs.getD k default).Exp<1:=by omega
     simp only [h,this,decide_true,decide_false,Bool.not_false]
   rw [e1];by_cases hx1:1<=(t.Fs.getD k default).Exp
   rotate_left
   ·simp only [hx1,decide_false,Bool.not_false,cond_true,Bool.false_and,cond_false]
   cases hv:vat (t.Fs.getD k default).At with
   | false=>
    rw [Bool.and_false];cases decide (1<=(t.Fs.getD k default).Exp) <;>cases decide ((t.Fs.getD k default).Exp>1) <;>cases decide ((t.Fs.getD k default).At.Kind≥3) <;>rfl
   | true=>
   obtain ⟨k1,k2⟩:=hk2 hv
   have e5:((t.Fs.getD k default).At.Kind==3||(t.Fs.getD k default).At.Kind==4)=decide ((t.Fs.getD k default).At.Kind≥3):=by
    rw [zl2,zl2, <- Bool.decide_or];congr 1;apply propext; omega
   have e6:((t.Fs.getD k default).Exp != 1)=decide ((t.Fs.getD k default).Exp>1):=by
    rw [zHG, <- decide_not];congr 1;apply propext; omega
   rw [e5,e6];simp only [hx1,decide_true,Bool.not_true,cond_false,Bool.true_and];generalize decide ((t.Fs.getD k default).Exp>1)=E2;generalize decide ((t.Fs.getD k default).At.Kind≥3)=E3;by_cases h0:k=0
   ·simp only [h0,decide_true,Bool.not_true,cond_false,Bool.true_or,Bool.and_true];cases E2 <;>cases E3 <;>rfl
   ·have hp:IntKind.i64.wrap ((k:Int) - 1)=((k - 1:Nat):Int):=zno (by omega) (by omega)
    have hk':k - 1<t.Fs.length:=by omega
    have hfx:zel (zw d) (t.Fs.getD (k - 1) default).At:=ht.2 _ (zI hk')
    have e2:∀ z:Int,decide (z≥0)= !decide (z<0):=λz=>by
     by_cases h:z<0
     ·have:¬ z≥0:=by omega
      simp [h,this]
     ·have:z≥0:=by omega
      simp [h,this]
    simp only [h0,hp,tT,hk',zxs hfx hd,e2,Bool.false_or];generalize decide (zbq (zet (t.Fs.getD (k - 1) default).At) (zet (t.Fs.getD k default).At)<0)=E4;cases E2 <;>cases E3 <;>cases E4 <;>rfl)
  (λH K D=>by
   show (zoZ g a i t.Fs.length t).ev H K D=_;unfold zoZ;simp only [Wy.ev_i,Wy.ev_k,tT,Nat.lt_irrefl]) n hn
theorem zboV (g:At->Bool×Bool) (a:yC) {d:Nat} (h:zw (d+1) a) (hd:d<=99) (hg:∀ t∈a,∀ f∈t.Fs,g f.At=(true,vat f.At)) (hk:∀ x,vat x=true->0<=x.Kind/\x.Kind<=4) (n:Nat) (hn:a.length<n):
  zPn g n a 0=(true,bif zka (zFX vat a) a.length 0 then .inr () else .inl false):=by
 have hl:=h.1
 exact zg7 (W:=zDZ g) (z:=.inl default) a.length (λk=>(a,(k:Int),())) (λ_=>()) (zFX vat a) (.inl false) (.inr ())
  (λk hk1 H K D=>by
   show (zqQ g a k).ev H K D=_;unfold zqQ zFX;have ht:=h.2 _ (zI hk1)
   have hgt:decide ((k:Int)>0)= !decide (k=0):=by
    by_cases h:k=0
    ·subst h; rfl
    ·have:0<k:=by omega
     simp [h,this]
   simp only [At.eta,Wy.ev_i,Wy.ev_k,Wy.ev_h,Wy.ev_bn,Wy.ev_d,tT,hk1,hgt];rw [zboB vat g a k _ ht hd (hg _ (zI hk1)) hk _ (by omega)]
   have e1:decide ((a.getD k default).Cf<1)= !decide (1<=(a.getD k default).Cf):=by
    by_cases h:1<=(a.getD k default).Cf
    ·have:¬ (a.getD k default).Cf<1:=by omega
     simp only [h,this,decide_true,decide_false,Bool.not_true]
    ·have:(a.getD k default).Cf<1:=by omega
     simp only [h,this,decide_true,decide_false,Bool.not_false]
   have e3:decide ((a.getD k default).Cf>1152921504606846976)= !decide ((a.getD k default).Cf<=1152921504606846976):=by
    by_cases h:(a.getD k default).Cf<=1152921504606846976
    ·have:¬ (a.getD k default).Cf>1152921504606846976:=by omega
     simp only [h,this,decide_true,decide_false,Bool.not_true]
    ·have:(a.getD k default).Cf>1152921504606846976:=by omega
     simp only [h,this,decide_true,decide_false,Bool.not_false]
   rw [e1,e3];generalize decide (1<=(a.getD k default).Cf)=E1;generalize decide ((a.getD k default).Cf<=1152921504606846976)=E2;by_cases h0:k=0
   ·subst h0;simp only [decide_true,Bool.not_true,cond_false,Bool.true_or,Bool.and_true];cases okF vat (a.getD 0 default).Fs <;>cases E1 <;>cases E2 <;>try rfl
   ·have hp:IntKind.i64.wrap ((k:Int) - 1)=((k - 1:Nat):Int):=zno (by omega) (by omega)
    have hk':k - 1<a.length:=by omega
    have hfx:zf3 (zw d) (a.getD (k - 1) default).Fs:=h.2 _ (zI hk')
    have e2:∀ z:Int,decide (z≥0)= !decide (z<0):=λz=>by
     by_cases h:z<0
     ·have:¬ z≥0:=by omega
      simp [h,this]
     ·have:z≥0:=by omega
      simp [h,this]
    simp only [h0,hp,tT,hk',zsP hfx hd,e2,Bool.false_or];generalize decide (zbV (zbW (a.getD (k - 1) default).Fs) (zbW (a.getD k default).Fs)<0)=E4;cases okF vat (a.getD k default).Fs <;>cases E1 <;>cases E2 <;>cases E4 <;>try rfl
    simp only [cond_true,cond_false,Bool.not_true,isL,getR,Bool.and_self];rw [zJ (by omega),decide_eq_false (show ¬ ((k - 1:Nat):Int)<0 by omega)]; rfl)
  (λH K D=>by
   show (zqQ g a a.length).ev H K D=_;unfold zqQ;simp only [Wy.ev_i,Wy.ev_k,tT,Nat.lt_irrefl]) n hn
theorem zbg6 (g:At->Bool×Bool) (a:yC) {d:Nat} (h:zw (d+1) a) (hd:d<=99) (hs:zX a<=4611686018427387904) (hg:zhU a=true->∀ t∈a,∀ f∈t.Fs,g f.At=(true,vat f.At)) (hk:∀ x,vat x=true->0<=x.Kind/\x.Kind<=4):zya g a=(true,zxN vat a):=by
 unfold zya zQz zxN;rw [Wy.fin_bn,zbhI h (by omega) hs]
 cases hw:zhU a with
 | false=>rfl
 | true=>
  have:=zboV vat g a h hd (hg hw) hk ((a.length+Int.toNat (0:Int)+(1:Nat))+zbD a) (by omega)
  simp only [Wy.fin_i,Wy.fin_k,Wy.fin_bn,this,cond_true];cases zka (zFX vat a) a.length 0 <;>rfl
end
theorem z5Y {l:yA} {a:yC} (h:a∈l):zX a<=zfp l:=by
 induction l with
 | nil=>cases h
 | cons b r ih=>
  rw [zh2];rcases qd.1 h with rfl | h
  ·omega
  ·have:=ih h; omega
theorem z0u {l:yE} {w:Wd} (h:w∈l):zX w.Ann<=zdU l:=by
 induction l with
 | nil=>cases h
 | cons b r ih=>
  rw [zj4];rcases qd.1 h with rfl | h
  ·omega
  ·have:=ih h; omega
theorem z2t {m:Nat} {a:yC} (h:zbR m a=true):isB a=isU a:=by
 cases m with
 | zero=>cases h
 | succ m=>
 match a with
 | []=>rfl
 | [t]=>
  simp only [zbR,zxN,qc] at h;have h1:=zlb.1 h.2 0 (by omega) (by simp)
  simp only [zFX,qc] at h1;have h2:=h1.2;obtain ⟨c,fs⟩:=t
  match fs with
  | []=>rfl
  | [f]=>
   have h3:=zlb.1 h2 0 (by omega) (by simp)
   simp only [zSE,qc] at h3;have h4:=zBy h3.2;simp only [List.getD_cons_zero] at h4;show (c==1&&(f.Exp==1&&decide (2<=f.At.Kind)))=(c==1&&(f.Exp==1&&(f.At.Kind==2||f.At.Kind==3||f.At.Kind==4)))
   have e:decide (2<=f.At.Kind)=(f.At.Kind==2||f.At.Kind==3||f.At.Kind==4):=by
    rw [zl2,zl2,zl2, <- Bool.decide_or, <- Bool.decide_or];congr 1;apply propext; omega
   rw [e]
  | f::f'::r=>rfl
 | t::u::r=>rfl
theorem zbon (g) (l:yA):zcP g l=IG (λ(_:Unit) x=>g x) (l.length+(Int.ofNat l.length).toNat +Int.toNat (0:Int)+(1:Nat)) () l:=rfl
theorem zboG (g) (l:yE):zdg g l=IG (λ(_:Unit) x=>g x) (l.length+(Int.ofNat l.length).toNat +Int.toNat (0:Int)+(1:Nat)) () l:=rfl
theorem zQT:∀ n,
  (∀ d m a,zw d a->10*d<=n->d<=m->d<=100->zX a<=4611686018427387904->zkq n a=(true,zbR m a))/\
  (∀ d m x,zel (zw d) x->10*d+9<=n->d<=m->d<=99->zkv x<=4611686018427387904->zm6 n x=(true,zeG (zbR m) x))/\
  (∀ d m a,zw d a->10*d+6<=n->d<=m->d<=99->zX a<=4611686018427387904->zft n a=(true, !(zbR m a&& !(a.length==0))))/\
  (∀ d m (w:Wd),zw d w.Ann->10*d+6<=n->d<=m->d<=99->zX w.Ann<=4611686018427387904->zfr n w=(true, !(zbR m w.Ann&& !(w.Ann.length==0))))/\
  (∀ d m (l:yA),l.length<=1000000->(∀ a∈l,zw d a/\zX a<=4611686018427387904)->10*d+7<=n->d<=m->d<=99->zcO n l=(true,ixf (λa=> !(zbR m a&& !(a.length==0))) l 0))/\
  (∀ d m (l:yA),l.length<=1000000->(∀ a∈l,zw d a/\zX a<=4611686018427387904)->10*d+8<=n->d<=m->d<=99->zcD n l=(true, !zrx (zbR m) l))/\
  (∀ d m (l:yE),l.length<=1000000->(∀ a∈l,zw d a.Ann/\zX a.Ann<=4611686018427387904)->10*d+7<=n->d<=m->d<=99->zdj n l=(true,ixf (λa=> !(zbR m a.Ann&& !(a.Ann.length==0))) l 0))/\
  (∀ d m (l:yE),l.length<=1000000->(∀ a∈l,zw d a.Ann/\zX a.Ann<=4611686018427387904)->10*d+8<=n->d<=m->d<=99->zcU n l=(true, !zEs (zbR m) l))
 | 0=>by
  refine ⟨?_, ?_, ?_, ?_, ?_, ?_, ?_, ?_⟩
  ·intro d m a h hd; have:d=0:=by omega
   subst this; exact h.elim
  all_goals (intros; omega)
 | n+1=>by
  obtain ⟨h1,h2,h3,h4,h5,h6,h7,h8⟩:=zQT n;refine ⟨?_, ?_, ?_, ?_, ?_, ?_, ?_, ?_⟩
  ·intro d m a h hd hm hd2 hs;cases d with
   | zero=>exact h.elim
   | succ d=>
    cases m with
    | zero=>omega
    | succ m=>
     rw [zUQ]
     exact zbiQ _ _ a h (by omega) hs λt ht f hf=>h2 d m f.At ((h.2 t ht).2 f hf) (by omega) (by omega) (by omega) (by
      have:=zbca ht hf; rw [ziU]; omega)
  ·intro d m x h hd hm hd2 hs;rw [zNa];rw [ziU] at hs
   exact zba1 _ _ _ _ _ x h hd2 (h6 d m _ h.1.1 (λa ha=>⟨h.2.1 a ha,by have:=z5Y ha; omega⟩) (by omega) hm hd2)
    (h8 d m _ h.1.2.1 (λa ha=>⟨(h.2.2 a ha).2,by have:=z0u ha; omega⟩) (by omega) hm hd2)
  ·intro d m a h hd hm hd2 hs;rw [zH2];unfold zkR zw8;rw [Wy.fin_bn,h1 d m a h (by omega) hm (by omega) hs]
   simp only [cond_true,Wy.fin_i,Wy.fin_k,show (Int.ofNat a.length==(0:Int))=(a.length==0) from zzs a.length 0]
   cases zbR m a <;>simp
  ·intro d m a h hd hm hd2 hs;rw [zHy];unfold zkM zw0;rw [Wy.fin_bn,h1 d m a.Ann h (by omega) hm (by omega) hs]
   simp only [cond_true,Wy.fin_i,Wy.fin_k,show (Int.ofNat a.Ann.length==(0:Int))=(a.Ann.length==0) from zzs a.Ann.length 0]
   cases zbR m a.Ann <;>simp
  ·intro d m l hl h hd hm hd2;rw [zm1,zbon];exact zV2 _ _ _ _ _ (by omega) (λx hx=>h3 d m x (h x hx).1 (by omega) hm hd2 (h x hx).2) (by omega)
  ·intro d m l hl h hd hm hd2;rw [zl1];unfold zcA zfC;rw [zp5 (h5 d m l hl h (by omega) hm hd2)]
   simp [zrx,List.all_eq_not_any_not]
  ·intro d m l hl h hd hm hd2;rw [zoL,zboG];exact zV2 _ _ _ _ _ (by omega) (λx hx=>h4 d m x (h x hx).1 (by omega) hm hd2 (h x hx).2) (by omega)
  ·intro d m l hl h hd hm hd2;rw [znf];unfold zcS zgF;rw [zp5 (h7 d m l hl h (by omega) hm hd2)]
   simp [zEs,List.all_eq_not_any_not]
theorem zbgD {a:yC} (h:zhU a=true) {t:Term} (ht:t∈a) {f:Fc} (hf:f∈t.Fs):f.At.Items.length<=1024/\f.Exp<=64/\t.Fs.length<=64:=by
 simp only [zhU,qc,List.all_eq_true] at h;have:=h.2 t ht;simp only [zBB,Bool.not_eq_true',Bool.or_eq_false_iff,decide_eq_false_iff_not,List.any_eq_false] at this;have h2:=this.2 f hf;simp at h2;omega
theorem z90:∀ n,
  (∀ d m a,zw d a->3*d<=n->d<=m->d<=100->zX a<=4611686018427387904->zyl n a=(true,zbR m a))/\
  (∀ d m x,zel (zw d) x->3*d+2<=n->d<=m->d<=99->zkv x<=4611686018427387904->x.Items.length<=1024->zvo n x=(true,zeG (zbR m) x))
 | 0=>by
  refine ⟨?_, ?_⟩
  ·intro d m a h hd; have:d=0:=by omega
   subst this; exact h.elim
  ·intros; omega
 | n+1=>by
  obtain ⟨h1,h2⟩:=z90 n;refine ⟨?_, ?_⟩
  ·intro d m a h hd hm hd2 hs;cases d with
   | zero=>exact h.elim
   | succ d=>
    cases m with
    | zero=>omega
    | succ m=>
     rw [z6X]
     exact zbg6 _ _ a h (by omega) hs (λhw t ht f hf=>h2 d m f.At ((h.2 t ht).2 f hf) (by omega) (by omega) (by omega) (by
      have:=zbca ht hf; rw [ziU]; omega) (zbgD hw ht hf).1) λx hx=>zBy hx
  ·intro d m x h hd hm hd2 hs h10;rw [zV5];rw [ziU] at hs
   exact z71 _ _ x h hd2 h10 (λa ha=>z2t ha) (λa ha=>h1 d m a (h.2.1 a ha) (by omega) hm (by omega) (by have:=z5Y ha; omega))
    λa ha=>h1 d m a.Ann (h.2.2 a ha).2 (by omega) hm (by omega) (by have:=z0u ha; omega)
def zbe (a:yC):Bool:=zbR 100 a
theorem zbjS {d:Nat} {a:yC} (h:zw d a) (hd:d<=100) (hs:zX a<=4611686018427387904):zci a=(true,zbe a):=(zQT 1000).1 d 100 a h (by omega) hd hd hs
theorem z9g {d:Nat} {a:yC} (h:zw d a) (hd:d<=100) (hs:zX a<=4611686018427387904):zf4 a=(true,zbe a):=(z90 1000).1 d 100 a h (by omega) hd hd hs
theorem z5m {τ:Type} [Inhabited τ] {l:List τ} {x:τ} (h:x∈l):∃ i,i<l.length/\l.getD i default=x:=by
 obtain ⟨i,hi,e⟩:=List.mem_iff_getElem.1 h;exact ⟨i,hi,by rw [List.getD_eq_getElem?_getD,List.getElem?_eq_getElem hi]; exact e⟩
theorem zQO {vat:At->Bool} {a:yC} (h:zxN vat a=true):zhU a=true:=by
 simp only [zxN,qc] at h; exact h.1
theorem zEL {vat:At->Bool} {a:yC} (h:zxN vat a=true) {t:Term} (ht:t∈a):(1<=t.Cf/\t.Cf<=1152921504606846976)/\okF vat t.Fs=true:=by
 simp only [zxN,qc] at h;obtain ⟨i,hi,rfl⟩:=z5m ht;have:=zlb.1 h.2 i (by omega) (by omega)
 simp only [zFX,qc,qe] at this;exact ⟨this.1.1,this.2⟩
theorem zBY {vat:At->Bool} {fs:yD} (h:okF vat fs=true) {f:Fc} (hf:f∈fs):(1<=f.Exp/\(f.At.Kind=3\/f.At.Kind=4->f.Exp=1))/\vat f.At=true:=by
 obtain ⟨i,hi,rfl⟩:=z5m hf;have:=zlb.1 h i (by omega) (by omega)
 simp only [zSE,qc,qe] at this;refine ⟨⟨this.1.1.1,λhk=> ?_⟩,this.2⟩
 have h2:=this.1.1.2;rcases hk with hk | hk
 ·rw [hk] at h2; simpa using h2
 ·rw [hk] at h2; simpa using h2
theorem zbmJ {b:Value} (h:bz b=true):b=⟨0,0,ByteArray.mk #[]⟩:=by
 unfold bz at h;rw [z2K] at h;simp only [qc,beq_iff_eq,qe,and_true] at h;obtain ⟨k,i,t⟩:=b;simp only at h;obtain ⟨rfl,rfl,rfl⟩:=h;rfl
theorem zEx {v:Value} (h:zzp v=true):v.Text.size<=255:=by
 simp only [zzp,Bool.or_eq_true,qc,beq_iff_eq,qe] at h;omega
theorem zWU {x:At} (h:plA x=true):x.Func=0/\x.Items=[]/\x.Op=0/\x.Bd=⟨0,0,ByteArray.mk #[]⟩:=by
 simp only [plA,qc,beq_iff_eq] at h;exact ⟨h.1.1.1,List.length_eq_zero_iff.1 h.1.1.2,h.1.2,zbmJ h.2⟩
theorem zbm9 {r:RowID} (h:rz r=true):r=⟨0,0⟩:=by
 simp only [rz,qc,beq_iff_eq,and_true] at h;obtain ⟨t,s⟩:=r;simp only at h;obtain ⟨rfl,rfl⟩:=h; rfl
inductive VA (V:yC->Bool):At->Prop
 | var (r:RowID) (h:zBH r=true):VA V ⟨0,r,[],0,[],0,⟨0,0,ByteArray.mk #[]⟩⟩
 | mon (a b:yC) (ha:V a=true) (hb:V b=true) (ha0:a≠[]) (hb0:b≠[]) (h:a≠b):VA V ⟨1,⟨0,0⟩,[a,b],0,[],0,⟨0,0,ByteArray.mk #[]⟩⟩
 | del (a:yC) (ha:V a=true) (ha0:a≠[]) (h:isC a=false) (h':isU a=false):VA V ⟨2,⟨0,0⟩,[a],0,[],0,⟨0,0,ByteArray.mk #[]⟩⟩
 | abs (a:yC) (ha:V a=true) (ha0:a≠[]) (h:zzh a=false):VA V ⟨3,⟨0,0⟩,[a],0,[],0,⟨0,0,ByteArray.mk #[]⟩⟩
 | tst (f:Int) (l:yE) (o:Int) (b:Value) (hl:l≠[]) (hi:∀ w∈l,V w.Ann=true/\w.Ann≠[]) (hs:z7n l=true) (hf:zAY f l o b=true):VA V ⟨4,⟨0,0⟩,[],f,l,o,b⟩
theorem zev {V:yC->Bool} {x:At}:zeG V x=true↔VA V x:=by
 constructor
 ·intro h;have hk:=zBy h;obtain ⟨k,r,l,f,its,o,b⟩:=x;simp only at hk;unfold zeG at h;simp only [qc] at h;obtain ⟨h1,h2⟩:=h
  have ha:∀ a∈l,V a=true/\a≠[]:=λa ha=>by
   have:=List.all_eq_true.1 h1 a ha;simp only [qc,Bool.not_eq_true',beq_eq_false_iff_ne] at this;exact ⟨this.1,λe=>this.2 (by rw [e]; rfl)⟩
  by_cases h0:k=0
  ·subst h0;simp only [if_true,qc,beq_iff_eq] at h2;obtain ⟨e1,e2,e3,e4⟩:=zWU h2.1.1;simp only at e1 e2 e3 e4;subst e1 e2 e3 e4;obtain rfl:l=[]:=List.length_eq_zero_iff.1 h2.2;exact .var r h2.1.2
  simp only [h0,if_false,qc] at h2;obtain ⟨hr,h2⟩:=h2;have hr':=zbm9 hr;subst hr';by_cases h0':k=1
  ·subst h0';simp only [if_true,qc] at h2;obtain ⟨e1,e2,e3,e4⟩:=zWU h2.1;simp only at e1 e2 e3 e4;subst e1 e2 e3 e4
   match l,h2.2,ha with
   | [a,b],h3,ha=>exact .mon a b (ha a (by simp)).1 (ha b (by simp)).1 (ha a (by simp)).2 (ha b (by simp)).2 (by simpa [z9Y] using h3)
  simp only [h0',if_false] at h2;by_cases h2':k=2
  ·subst h2';simp only [if_true,qc] at h2;obtain ⟨e1,e2,e3,e4⟩:=zWU h2.1;simp only at e1 e2 e3 e4;subst e1 e2 e3 e4
   match l,h2.2,ha with
   | [a],h3,ha=>
    simp only [zIt,qc,Bool.not_eq_true'] at h3;exact .del a (ha a (by simp)).1 (ha a (by simp)).2 h3.1 h3.2
  simp only [h2',if_false] at h2;by_cases h3':k=3
  ·subst h3';simp only [if_true,qc] at h2;obtain ⟨e1,e2,e3,e4⟩:=zWU h2.1;simp only at e1 e2 e3 e4;subst e1 e2 e3 e4
   match l,h2.2,ha with
   | [a],h3,ha=>
    simp only [zIt,Bool.not_eq_true'] at h3;exact .abs a (ha a (by simp)).1 (ha a (by simp)).2 h3
  simp only [h3',if_false] at h2;have h4':k=4:=by omega
  subst h4';simp only [if_true,qc,beq_iff_eq,qe] at h2;obtain ⟨⟨⟨⟨h3,h4⟩,h5⟩,h6⟩,h7⟩:=h2;obtain rfl:l=[]:=List.length_eq_zero_iff.1 h3
  exact .tst f its o b (λe=>by rw [e] at h4; simp at h4) (λw hw=>by
   have:=List.all_eq_true.1 h5 w hw;simp only [qc,Bool.not_eq_true',beq_eq_false_iff_ne] at this;exact ⟨this.1,λe=>this.2 (by rw [e]; rfl)⟩) h6 h7
 ·intro h
  have ne:∀ a:yC,a≠[]->(a.length==0)=false:=λa ha=>by
   rw [beq_eq_false_iff_ne]; exact λe=>ha (List.length_eq_zero_iff.1 e)
  cases h with
  | var r h=>simp [zeG,zrx,plA,bz,h]
  | mon a b ha hb ha0 hb0 h=>simp [zeG,zrx,plA,bz,rz,z9Y,ha,hb,ha0,hb0,h]
  | del a ha ha0 h h'=>simp [zeG,zrx,plA,bz,rz,zIt,ha,ha0,h,h']
  | abs a ha ha0 h=>simp [zeG,zrx,plA,bz,rz,zIt,ha,ha0,h]
  | tst f l o b hl hi hs hf=>
   have h1:zEs V l=true:=List.all_eq_true.2 λw hw=>by rw [(hi w hw).1,ne _ (hi w hw).2]; rfl
   have h2:0<l.length:=by
    cases l with
    | nil=>exact absurd rfl hl
    | cons x r=>simp
   simp [zeG,zrx,rz,h1,hs,hf,h2]
theorem zBs {a:yC} (h:zhU a=true):a.length<=512/\zbJ a<=8/\zX a<=4096/\∀ t∈a,t.Fs.length<=64/\∀ f∈t.Fs,f.Exp<=64/\f.At.Items.length<=1024:=by
 simp only [zhU,qc,List.all_eq_true,qe] at h;refine ⟨h.1.1.1,h.1.1.2,h.1.2,λt ht=> ?_⟩
 have:=h.2 t ht;simp only [zBB,Bool.not_eq_true',Bool.or_eq_false_iff,decide_eq_false_iff_not,List.any_eq_false] at this;refine ⟨by omega,λf hf=> ?_⟩
 have h2:=this.2 f hf;simp at h2;omega
theorem zbah {a:yC} {t:Term} (h:t∈a):zdw t.Fs<=zbJ a:=by
 induction a with
 | nil=>cases h
 | cons b r ih=>
  rw [zDn];rcases qd.1 h with rfl | h
  ·omega
  ·have:=ih h; omega
theorem zUD {l:yD} {f:Fc} (h:f∈l):zn4 f.At<=zdw l:=by
 induction l with
 | nil=>cases h
 | cons b r ih=>
  rw [zn6];rcases qd.1 h with rfl | h
  ·omega
  ·have:=ih h; omega
theorem zSf {l:yA} {a:yC} (h:a∈l):zbJ a<=zmI l:=by
 induction l with
 | nil=>cases h
 | cons b r ih=>
  rw [zFi];rcases qd.1 h with rfl | h
  ·omega
  ·have:=ih h; omega
theorem zbeC {l:yE} {w:Wd} (h:w∈l):zbJ w.Ann<=zlo l:=by
 induction l with
 | nil=>cases h
 | cons b r ih=>
  rw [zDv];rcases qd.1 h with rfl | h
  ·omega
  ·have:=ih h; omega
theorem zBG {f:Int} {l:yE} {o:Int} {b:Value} (h:zAY f l o b=true):(0<=f/\f<=3/\5<=o/\o<=10)/\zzp b=true/\∀ w∈l,zzp w.Value=true/\w.Value.Kind=b.Kind:=by
 simp only [zAY,qc,List.all_eq_true,qe] at h;obtain ⟨⟨⟨⟨⟨⟨h1,h2⟩,h3⟩,h4⟩,h5⟩,h6⟩,h7⟩:=h;refine ⟨⟨h1,h2,h3,h4⟩,h5,λw hw=> ?_⟩
 have:=h7 w hw;simp only [zO8,qc,beq_iff_eq] at this;exact this.1
theorem zbab:∀ (m:Nat) (a:yC),zbR m a=true->zw (zbJ a+1) a
 | 0,a,h=>by cases h
 | m+1,a,h=>by
  have hw:=zBs (zQO h);refine ⟨by omega,λt ht=> ?_⟩
  obtain ⟨_,hok⟩:=zEL h ht;obtain ⟨h1,h2⟩:=hw.2.2.2 t ht;refine ⟨by omega,λf hf=> ?_⟩
  have hv:=zev.1 (zBY hok hf).2;have hn:zn4 f.At<=zbJ a:=Nat.le_trans (zUD hf) (zbah ht);have h3:=(h2 f hf).2;generalize f.At=x at hv hn h3;rw [zFe] at hn;have ih:∀ b,zbR m b=true->zbJ b+1<=zbJ a->zw (zbJ a) b:=λb hb hl=>(zbab m b hb).mono hl
  cases hv with
  | var r h=>exact ⟨⟨by simp,by simp,by show (ByteArray.mk #[]).size<=_; decide⟩,λa ha=>(by cases ha),λw hw=>(by cases hw)⟩
  | mon b c hb hc _ _ _=>
   simp only at hn;refine ⟨⟨by simp,by simp,by show (ByteArray.mk #[]).size<=_; decide⟩,λy hy=> ?_,λw hw=>(by cases hw)⟩
   have:=zSf hy;simp only at this;simp only [qd,List.not_mem_nil,or_false] at hy;rcases hy with rfl | rfl
   ·exact ih _ hb (by simp at hn; omega)
   ·exact ih _ hc (by simp at hn; omega)
  | del b hb _ _ _=>
   refine ⟨⟨by simp,by simp,by show (ByteArray.mk #[]).size<=_; decide⟩,λy hy=> ?_,λw hw=>(by cases hw)⟩
   have:=zSf hy;simp only at this;simp only [qd,List.not_mem_nil,or_false] at hy;subst hy;exact ih _ hb (by simp at hn; omega)
  | abs b hb _ _=>
   refine ⟨⟨by simp,by simp,by show (ByteArray.mk #[]).size<=_; decide⟩,λy hy=> ?_,λw hw=>(by cases hw)⟩
   have:=zSf hy;simp only at this;simp only [qd,List.not_mem_nil,or_false] at hy;subst hy;exact ih _ hb (by simp at hn; omega)
  | tst fn l o b hl hi hs hf=>
   obtain ⟨_,hb,hit⟩:=zBG hf;refine ⟨⟨by simp,by simp only at h3 ⊢; omega,by have:=zEx hb; simp only; omega⟩,λy hy=>(by cases hy),λw hw=>⟨by have:=zEx (hit w hw).1; omega, ?_⟩⟩
   have:=zbeC hw;simp only at this;exact ih _ (hi w hw).1 (by simp at hn; omega)
theorem zgB {m:Nat} {a:yC} (h:zbR m a=true):zw 9 a/\zX a<=4096/\a.length<=512:=by
 cases m with
 | zero=>cases h
 | succ m=>
 have hw:=zBs (zQO h);exact ⟨(zbab _ a h).mono (by omega),hw.2.2.1,hw.1⟩
theorem zbcr {d m m':Nat} {a:yC} (h:zw d a) (hd:d<=100) (h1:d<=m) (h2:d<=m') (hs:zX a<=4611686018427387904):zbR m a=zbR m' a:=by
 have e1:=(zQT 1000).1 d m a h (by omega) h1 hd hs
 have e2:=(zQT 1000).1 d m' a h (by omega) h2 hd hs
 rw [e1] at e2;exact (Prod.mk.injEq _ _ _ _ ▸ e2).2
theorem zbfH {m:Nat} {a:yC} (h:zbR m a=true) (hm:9<=m):zbe a=true:=by
 obtain ⟨h1,h2,h3⟩:=zgB h;rw [<- h]; exact zbcr h1 (by omega) (by omega) hm (by omega)
theorem z67 {m:Nat} {a:yC} (h:zbe a=true) (hm:9<=m):zbR m a=true:=by
 obtain ⟨h1,h2,h3⟩:=zgB h;rw [<- h]; exact zbcr h1 (by omega) hm (by omega) (by omega)
theorem VA.imp {V V':yC->Bool} (hV:∀ a,V a=true->V' a=true) {x:At} (h:VA V x):VA V' x:=by
 cases h with
 | var r h=>exact .var r h
 | mon a b ha hb ha0 hb0 h=>exact .mon a b (hV a ha) (hV b hb) ha0 hb0 h
 | del a ha ha0 h h'=>exact .del a (hV a ha) ha0 h h'
 | abs a ha ha0 h=>exact .abs a (hV a ha) ha0 h
 | tst f l o b hl hi hs hf=>exact .tst f l o b hl (λw hw=>⟨hV _ (hi w hw).1,(hi w hw).2⟩) hs hf
def zuS (x:At):Bool:=zeG zbe x
theorem zbjn {m:Nat} (hm:9<=m):zeG (zbR m)=zuS:=by
 funext x
 rw [Bool.eq_iff_iff];unfold zuS;rw [zev,zev];exact ⟨VA.imp λa h=>zbfH h hm,VA.imp λa h=>z67 h hm⟩
theorem z9D (a:yC):zbe a=zxN zuS a:=by
 show zxN (zeG (zbR 99)) a=_;rw [zbjn (by omega)]
section
variable (g:yC->Bool×yC) (gx:At->Bool×At)
end
section
variable (g:yC->Bool×yC)
end
def zzc (a:yC):yC×Int:=bif zhU a then (a,0) else ([],6)
theorem zTz {d:Nat} {a:yC} (h:zw d a) (hd:d<=100) (hs:zX a<=4611686018427387904):znv a=(true,zzc a):=by
 unfold znv z5p zzc;simp only [Wy.fin_bn,Wy.fin_i,Wy.fin_k,zbhI h hd hs,cond_true];cases zhU a <;>rfl
def zhj (x:At):yC:=[⟨1,[⟨x,1⟩]⟩]
theorem zbji (x:At):(zfJ x).2=zhj x:=by
 unfold zfJ zGK;rw [At.eta]; rfl
theorem zTa (x:At):(zmS x).2=zhj x:=by
 unfold zmS z0s;rw [At.eta]; rfl
theorem z2i {d:Nat} {x:At} (h:zel (zw d) x):zw (d+1) (zhj x):=by
 refine ⟨by simp [zhj],λt ht=> ?_⟩
 simp only [zhj,qh] at ht;subst ht;refine ⟨by simp,λf hf=> ?_⟩
 simp only [qh] at hf;subst hf; exact h
theorem z6z (x:At):zX (zhj x)=2+zkv x:=by
 rw [zhj,zjN,zBx,zeF,zmJ];simp only [List.length_singleton]; omega
end Go.Proofs.YtljlfiomikifjaaGreatDoor
end
