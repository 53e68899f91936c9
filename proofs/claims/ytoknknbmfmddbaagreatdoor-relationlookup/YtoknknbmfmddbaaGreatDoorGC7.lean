/- Texts of this claim, joined (the program, its functions in plain words, and what they compute). -/
import Derived.Test.YtoknknbmfmddbaaGreatDoorGC6
set_option autoImplicit false
set_option linter.unusedVariables false
set_option linter.unusedSectionVars false
set_option linter.unusedSimpArgs false
set_option maxRecDepth 1000000
set_option maxHeartbeats 0
/- The program's comparison of annotations is the order of trees. -/
noncomputable section
namespace Go.Proofs.YtoknknbmfmddbaaGreatDoor
open Go Go.Ab
theorem zlF (x y:Int):zdo x y=(true,zdc x y):=by
 unfold zdo zFE zqj zJR zdc;by_cases h1:x<y
 ·simp [h1,Wy.fin_i,Wy.fin_k]
 ·by_cases h2:y<x <;>simp [h1,h2,Wy.fin_i,Wy.fin_k]
theorem zBf (x y:Int):zhR x y=(true,zdc x y):=by
 unfold zhR zBP zmq zFO zdc;by_cases h1:x<y
 ·simp [h1,Wy.fin_i,Wy.fin_k]
 ·by_cases h2:y<x <;>simp [h1,h2,Wy.fin_i,Wy.fin_k]
def zqf:List Int->Int
 | []=>0
 | x::r=>if x=0 then zqf r else x
theorem z33 (l:List Int) (hl:l.length<=1000000):∀ (n i:Nat),l.length<i+n->i<=l.length->∃ r,zEB n 0 l l.length i=(true,r)/\(r=.inl (zqf (l.drop i))\/(r=.inr 0/\zqf (l.drop i)=0))
 | 0,i,h,h2=>by omega
 | n+1,i,h,h2=>by
  show ∃ r,(zEQ 0 l l.length i).ev (λx y=>zEB n x.1 x.2.1 x.2.2.1 x.2.2.2.1) (λr=>(true,r)) (false,.inl default)=(true,r)/\_
  unfold zEQ;by_cases hi:i<l.length
  ·simp only [Wy.ev_i,Wy.ev_k,Wy.ev_h,Int.ofNat_eq_natCast,zkH,zhm,decide_true,decide_false,Bool.and_self,Bool.true_and,Bool.and_true,cond_true,cond_false,Int.toNat_natCast,Bool.not_true,Bool.not_false,hi];obtain ⟨r,h1,h3⟩:=z33 l hl n (i+1) (by omega) (by omega)
   rw [z6 hi,zbe (by omega),h1]
   generalize l.getD i default=x;by_cases hx:x=0
   ·have e:(x != 0)=false:=by simp [hx]
    simp only [e,cond_false,zqf,hx,if_true];exact ⟨r,rfl,h3⟩
   ·have e:(x != 0)=true:=by simp [hx]
    simp only [e,cond_true,zqf,hx,if_false];exact ⟨_,rfl,.inl rfl⟩
  ·simp only [Wy.ev_i,Wy.ev_k,Wy.ev_h,Int.ofNat_eq_natCast,zkH,zhm,decide_true,decide_false,Bool.and_self,Bool.true_and,Bool.and_true,cond_true,cond_false,Int.toNat_natCast,Bool.not_true,Bool.not_false,hi,zc9 hi];exact ⟨_,rfl,.inr ⟨rfl,rfl⟩⟩
theorem zqn (l:List Int) (hl:l.length<=1000000):zk3 l=(true,zqf l):=by
 unfold zk3 zTD;obtain ⟨r,h1,h2⟩:=z33 l hl (Int.toNat 0+l.length+(Int.ofNat l.length).toNat +Int.toNat 0+1) 0 (by simp; omega) (by omega)
 rw [show ((0:Nat):Int)=(0:Int) from rfl] at h1
 rw [Wy.fin_bn,show Int.ofNat l.length=(l.length:Int) from rfl] at *
 rw [h1];rw [List.drop_zero] at h2;rcases h2 with rfl | ⟨rfl,h2⟩
 ·rfl
 ·rw [h2]; rfl
section
variable {α:Type}
def zvw (c:α->α->Int):List α->List α->Int
 | [],[]=>0
 | [],_::_=> -1
 | _::_,[]=>1
 | x::a,y::b=>if c x y=0 then zvw c a b else c x y
theorem zJ5 (e:α->TT) {c:α->α->Int}:∀ (a b:List α),(∀ x∈a,∀ y∈b,c x y=zbE (e x) (e y))->zvw c a b=zbw (a.map e) (b.map e)
 | [],[],_=>by simp only [zvw,List.map,zbw]
 | [],_::_,_=>by simp only [zvw,List.map,zbw]
 | _::_,[],_=>by simp only [zvw,List.map,zbw]
 | x::a,y::b,h=>by
  simp only [zvw,List.map,zbw];rw [h x (by simp) y (by simp),zJ5 e a b λx hx y hy=>h x (by simp [hx]) y (by simp [hy])]
variable [Inhabited α]
def z05 (g:α->α->Bool×Int) (s1:List α) (s2:List α) (t11:List α) (t12:Int) (t13:Int):Wy (List α×List α×Unit×List α×Int×Int×Unit) Unit (Int⊕(List α×List α)):=.i (decide (t13<t12)) (.i (decide ((0:Int)<=t13)&&decide (t13<Int.ofNat t11.length)) (.i (decide (t13≥Int.ofNat s2.length)) (.k (.inl (1:Int))) (.i (decide ((0:Int)<=t13)&&decide (t13<Int.ofNat s2.length)) (.bn (g (t11.getD t13.toNat default) (s2.getD t13.toNat default)) λr0=>.i (r0 != (0:Int)) (.k (.inl (r0))) (.h (s1,s2,(),t11,t12,(IntKind.i64.wrap (t13+(1:Int))),()) ())) .d)) .d) (.k (.inr (s1,s2)))
def z4z (g:α->α->Bool×Int) (x:List α×List α×Unit×List α×Int×Int×Unit) (y:Unit):Wy (List α×List α×Unit×List α×Int×Int×Unit) Unit (Int⊕(List α×List α)):=z05 g x.1 x.2.1 x.2.2.2.1 x.2.2.2.2.1 x.2.2.2.2.2.1
def z4C (g:α->α->Bool×Int) (n:Nat) (s1:List α) (s2:List α) (t11:List α) (t12:Int) (t13:Int):Bool×(Int⊕(List α×List α)):=zD (z4z g) (.inl default) n (s1,s2,(),t11,t12,t13,()) ()
def CF (g:α->α->Bool×Int) (s1 s2:List α):Bool×Int:=(.bn (z4C g (s1.length+s2.length+s1.length+(Int.ofNat s1.length).toNat +Int.toNat (0:Int)+(1:Nat)) s1 s2 s1 (Int.ofNat s1.length) (0:Int)) λr2=>.i (isL r2) (.k (getL r2)) (.i (decide (Int.ofNat (getR r2).fst.length<Int.ofNat (getR r2).snd.length)) (.k (-1:Int)) (.k (0:Int))):Wy0 Int).fin default
theorem z38 (g:α->α->Bool×Int) (c:α->α->Int) (a b:List α) (ha:a.length<=1000000) (hg:∀ x∈a,∀ y∈b,g x y=(true,c x y)):∀ (n i:Nat),a.length<i+n->i<=a.length->i<=b.length->
  ∃ r,z4C g n a b a a.length i=(true,r)/\((r=.inl (zvw c (a.drop i) (b.drop i)))\/(r=.inr (a,b)/\zvw c (a.drop i) (b.drop i)=if a.length<b.length then -1 else 0))
 | 0,i,h,h2,h3=>by omega
 | n+1,i,h,h2,h3=>by
  show ∃ r,(z05 g a b a a.length i).ev (λx y=>z4C g n x.1 x.2.1 x.2.2.2.1 x.2.2.2.2.1 x.2.2.2.2.2.1) (λr=>(true,r)) (false,.inl default)=(true,r)/\_
  unfold z05;by_cases hi:i<a.length
  ·by_cases hi':i<b.length
   ·have hg':¬ b.length<=i:=by omega
    simp only [Wy.ev_i,Wy.ev_k,Wy.ev_h,Wy.ev_bn,Wy.ev_d,Int.ofNat_eq_natCast,zkH,zhm,decide_true,decide_false,Bool.and_self,Bool.true_and,Bool.and_true,cond_true,cond_false,Int.toNat_natCast,Bool.not_true,Bool.not_false,hi,hi',z5B,hg',hg _ (zT hi) _ (zT hi')];rw [z6 hi,z6 hi',zbe (by omega)]
    simp only [zvw];generalize c (a.getD i default) (b.getD i default)=z;by_cases hx:z=0
    ·have e:(z != 0)=false:=by simp [hx]
     simp only [e,cond_false,hx,if_true];exact z38 g c a b ha hg n (i+1) (by omega) (by omega) (by omega)
    ·have e:(z != 0)=true:=by simp [hx]
     simp only [e,cond_true,hx,if_false];exact ⟨_,rfl,.inl rfl⟩
   ·have hg':b.length<=i:=by omega
    simp only [Wy.ev_i,Wy.ev_k,Wy.ev_h,Wy.ev_bn,Wy.ev_d,Int.ofNat_eq_natCast,zkH,zhm,decide_true,decide_false,Bool.and_self,Bool.true_and,Bool.and_true,cond_true,cond_false,Int.toNat_natCast,Bool.not_true,Bool.not_false,hi,z5B,hg'];refine ⟨_,rfl,.inl ?_⟩;rw [z6 hi,zc9 hi']; rfl
  ·simp only [Wy.ev_i,Wy.ev_k,Wy.ev_h,Wy.ev_bn,Wy.ev_d,Int.ofNat_eq_natCast,zkH,zhm,decide_true,decide_false,Bool.and_self,Bool.true_and,Bool.and_true,cond_true,cond_false,Int.toNat_natCast,Bool.not_true,Bool.not_false,hi];refine ⟨_,rfl,.inr ⟨rfl, ?_⟩⟩;rw [zc9 hi];by_cases hi':i<b.length
   ·rw [z6 hi',if_pos (by omega)]; rfl
   ·rw [zc9 hi',if_neg (by omega)]; rfl
theorem zba1 (g:α->α->Bool×Int) (c:α->α->Int) (a b:List α) (ha:a.length<=1000000) (hg:∀ x∈a,∀ y∈b,g x y=(true,c x y)):CF g a b=(true,zvw c a b):=by
 unfold CF;obtain ⟨r,h1,h2⟩:=z38 g c a b ha hg (a.length+b.length+a.length+(Int.ofNat a.length).toNat +Int.toNat 0+1) 0 (by simp; omega) (by omega) (by omega)
 rw [show ((0:Nat):Int)=(0:Int) from rfl] at h1
 rw [Wy.fin_bn,show Int.ofNat a.length=(a.length:Int) from rfl] at *
 rw [h1];simp only [List.drop_zero] at h2;rcases h2 with rfl | ⟨rfl,h2⟩
 ·rfl
 ·rw [h2];simp only [Wy.fin_i,Wy.fin_k,Int.ofNat_eq_natCast,zkH,zhm,decide_true,decide_false,Bool.and_self,Bool.true_and,Bool.and_true,cond_true,cond_false,Int.toNat_natCast,Bool.not_true,Bool.not_false,isL,getR];by_cases h3:a.length<b.length <;>simp [h3]
end
theorem zMw {α:Type} [Inhabited α] (e:α->TT) (g:α->α->Bool×Int) (a b:List α) (ha:a.length<=1000000) (hg:∀ x∈a,∀ y∈b,g x y=(true,zbE (e x) (e y))):CF g a b=(true,zbw (a.map e) (b.map e)):=by
 rw [zba1 g (λx y=>zbE (e x) (e y)) a b ha hg,zJ5 e a b λ_ _ _ _=>rfl]
theorem Fc.eta2 (x:Fc):(FO.mk (At.mk x.At.Kind x.At.Row x.At.Ag x.At.Func x.At.Items x.At.Op x.At.Bd) x.Exp:Fc)=x:=by rw [At.eta]
theorem z7B (g):zbJ g=CF g:=rfl
theorem z4w (g):zbk g=CF g:=by
 have h:zbH g=z4z g:=by
  funext x y
  unfold zbH zds z4z z05;rw [Fc.eta2,Fc.eta2]
 funext a b
 unfold zbk zdw zdr;rw [h]; rfl
theorem z8q (g):zbg g=CF g:=rfl
theorem z7f (g):zbz g=CF g:=rfl
theorem zy5 (a b:Value):zin a b=(true,zbE (trV a) (trV b)):=by
 unfold zin zJZ;have h:(strings_Compare a.Text b.Text).2=zbE (trB a.Text) (trB b.Text):=by rw [<- z3z]; rfl
 simp only [zlF,zBf,Wy.fin_bn,cond_true,h];rw [zqn _ (by simp)]
 simp only [Wy.fin_k,cond_true,trV,zbE,zbw,zqf];rfl
theorem zMc:∀ n,
  (∀ d a b,zK d a->10*d<=n->zfr n a b=(true,zbw (zc2 a) (zc2 b)))/\
  (∀ d a b,zK d a->10*d<=n+1->zbK n a b=(true,zbw (zc2 a) (zc2 b)))/\
  (∀ d x y,zjn (zK d) x.Fs->10*d+10<=n+2->zhy n x y=(true,zbE (zwt x) (zwt y)))/\
  (∀ d x y,zjn (zK d) x.Fs->10*d+10<=n+3->zga n x y=(true,zbw (zb6 x.Fs) (zb6 y.Fs)))/\
  (∀ d l l',zjn (zK d) l->10*d+10<=n+4->zbP n l l'=(true,zbw (zb6 l) (zb6 l')))/\
  (∀ d x y,zgK (zK d) x.At->10*d+10<=n+5->zfb n x y=(true,zbE (zoC x) (zoC y)))/\
  (∀ d x y,zgK (zK d) x->10*d+10<=n+6->zgc n x y=(true,zbE (zgf x) (zgf y)))/\
  (∀ d a b,a.length<=1000000->(∀ x∈a,zK d x)->10*d+10<=n+7->zbf n a b=(true,zbw (zud a) (zud b)))/\
  (∀ d a b,a.length<=1000000->(∀ x∈a,zK d x.Ann)->10*d+10<=n+7->zbA n a b=(true,zbw (zia a) (zia b)))/\
  (∀ d x y,zK d x.Ann->10*d+10<=n+8->zem n x y=(true,zbE (zgX x) (zgX y)))
 | 0=>by
  refine ⟨?_, ?_, ?_, ?_, ?_, ?_, ?_, ?_, ?_, ?_⟩
  ·intro d a b h hd; have:d=0:=by omega
   subst this; exact h.elim
  ·intro d a b h hd; have:d=0:=by omega
   subst this; exact h.elim
  all_goals (intros; omega)
 | n+1=>by
  obtain ⟨h1,h2,h3,h4,h5,h6,h7,h8,h9,h10⟩:=zMc n;refine ⟨?_, ?_, ?_, ?_, ?_, ?_, ?_, ?_, ?_, ?_⟩
  ·intro d a b h hd;rw [zI7];unfold znV zxY;rw [Wy.fin_bn,h2 d a b h (by omega)]; rfl
  ·intro d a b h hd;cases d with
   | zero=>exact h.elim
   | succ d=>
    rw [zg5,z7B,zD7,zD7];exact zMw zwt _ a b h.1 λx hx y hy=>h3 d x y (h.2 x hx) (by omega)
  ·intro d x y h hd;rw [zE2];unfold zko zvM;rw [Wy.fin_bn,h4 d x y h (by omega)]
   simp only [cond_true,Wy.fin_bn,zBf];rw [zqn _ (by simp)]
   obtain ⟨c,l⟩:=x; obtain ⟨c',l'⟩:=y;simp only [cond_true,Wy.fin_k,zqf,zwt,zbE,zbw];rfl
  ·intro d x y h hd;rw [zCi];unfold zjd zs9;rw [Wy.fin_bn,h5 d _ _ h (by omega)]; rfl
  ·intro d l l' h hd;rw [zhE,z4w,zuL,zuL];exact zMw zoC _ l l' h.1 λx hx y hy=>h6 d x y (h.2 x hx) (by omega)
  ·intro d x y h hd;rw [zAB];unfold zh4 zrE;rw [At.eta,At.eta,Wy.fin_bn,h7 d _ _ h (by omega)]
   simp only [cond_true,Wy.fin_bn,zlF];rw [zqn _ (by simp)]
   obtain ⟨c,l⟩:=x; obtain ⟨c',l'⟩:=y;simp only [cond_true,Wy.fin_k,zqf,zoC,zbE,zbw];rfl
  ·intro d x y h hd;rw [zCC];unfold zi5 ztb;simp only [cond_true,Wy.fin_bn,zlF,zy5,h8 d x.Ag y.Ag h.1.1 h.2.1 (by omega),h9 d x.Items y.Items h.1.2.1 (λw hw=>(h.2.2 w hw).2) (by omega)]
   rw [zqn _ (by simp)]
   obtain ⟨k,r,a,f,i,o,v⟩:=x; obtain ⟨k',r',a',f',i',o',v'⟩:=y;simp only [cond_true,Wy.fin_k,zqf,zgf,zbE,zbw];rfl
  ·intro d a b h0 h hd;rw [zeD,z8q,zBh,zBh];exact zMw (λx=>TT.l (zc2 x)) _ a b h0 λx hx y hy=>by rw [h1 d x y (h x hx) (by omega)]; simp only [zbE]
  ·intro d a b h0 h hd;rw [zfO,z7f,zxV,zxV];exact zMw zgX _ a b h0 λx hx y hy=>h10 d x y (h x hx) (by omega)
  ·intro d x y h hd;rw [zCy];unfold zi7 zs5;simp only [cond_true,Wy.fin_bn,zy5,h1 d _ _ h (by omega)]
   rw [zqn _ (by simp)]
   obtain ⟨c,l⟩:=x; obtain ⟨c',l'⟩:=y;simp only [cond_true,Wy.fin_k,zqf,zgX,zbE,zbw];rfl
theorem zMx {d:Nat} {a:yB} (h:zK d a) (hd:d<=100) (b:yB):zwu a b=(true,zbw (zc2 a) (zc2 b)):=(zMc 1000).1 d a b h (by omega)
theorem zE6 {d:Nat} {x:Term} (h:zjn (zK d) x.Fs) (hd:d<=99) (y:Term):zb7 x y=(true,zbw (zb6 x.Fs) (zb6 y.Fs)):=(zMc 1000).2.2.2.1 d x y h (by omega)
theorem zEP {d:Nat} {x:At} (h:zgK (zK d) x) (hd:d<=99) (y:At):zhC x y=(true,zbE (zgf x) (zgf y)):=(zMc 1000).2.2.2.2.2.2.1 d x y h (by omega)
theorem zEM {d:Nat} {x:Wd} (h:zK d x.Ann) (hd:d<=99) (y:Wd):zbo x y=(true,zbE (zgX x) (zgX y)):=(zMc 1000).2.2.2.2.2.2.2.2.2 d x y h (by omega)
theorem zRq {d:Nat} {a:yB} (h:zK d a) (hd:d<=100) (b:yB):zgP a b=(true,decide (a=b)):=by
 unfold zgP zC7;rw [Wy.fin_bn,zMx h hd];simp only [cond_true,Wy.fin_k];congr 1;by_cases e:a=b
 ·subst e; rw [zR6]; simp
 ·have:zbw (zc2 a) (zc2 b)≠0:=λh=>e (zDM _ _ (zGH _ _ h))
  simp [e,this]
theorem zVh (s:ByteArray):∀ (n i:Nat) (r:List UInt8),s.size<=i+n->ByteArray.toList.loop s i r=r.reverse++s.data.toList.drop i
 | 0,i,r,h=>by
  rw [ByteArray.toList.loop,if_neg (by omega),List.drop_eq_nil_of_le (by rw [<- Lib.size_eq]; omega),List.append_nil]
 | n+1,i,r,h=>by
  rw [ByteArray.toList.loop];by_cases hi:i<s.size
  ·have hi':i<s.data.toList.length:=by rw [<- Lib.size_eq]; exact hi
   rw [if_pos hi,zVh s n (i+1) _ (by omega),List.drop_eq_getElem_cons hi',List.reverse_cons,List.append_assoc]
   congr 1
   have:s.get! i=s.data.toList[i]:=by
    have h':i<s.data.size:=hi;show s.data[i]! =s.data.toList[i];rw [getElem!_pos s.data i h']; rfl
   rw [this]; rfl
  ·rw [if_neg hi,List.drop_eq_nil_of_le (by rw [<- Lib.size_eq]; omega),List.append_nil]
theorem toList_eq (s:ByteArray):s.toList=s.data.toList:=by
 rw [ByteArray.toList,zVh s s.size 0 [] (by omega)]; rfl
theorem zEf {s t:ByteArray} (h:s.data.toList=t.data.toList):s=t:=by
 cases s; cases t;congr 1;exact Array.toList_inj.1 h
theorem z48 (s t:ByteArray):(s.toList==t.toList)=decide (s.data.toList=t.data.toList):=by
 rw [toList_eq,toList_eq];cases hb:(s.data.toList==t.data.toList) with
 | true=>rw [decide_eq_true (beq_iff_eq.1 hb)]
 | false=>rw [decide_eq_false (λh=>by rw [beq_iff_eq.2 h] at hb; cases hb)]
theorem zTW (s t:ByteArray):(s.toList==t.toList)=decide (s=t):=by
 rw [z48];by_cases h:s=t
 ·rw [decide_eq_true h,decide_eq_true (by rw [h])]
 ·rw [decide_eq_false h,decide_eq_false λe=>h (zEf e)]
theorem zWj (z w:Int):(z != w)= !decide (z=w):=by by_cases h:z=w <;>simp [h]
theorem zP9:∀ a b:List UInt8,Op.bytesLess a b=decide (Lib.compareBytes a b<0)
 | [],[]=>by simp [Op.bytesLess,Lib.compareBytes]
 | _::_,[]=>by simp [Op.bytesLess,Lib.compareBytes]
 | [],_::_=>by simp [Op.bytesLess,Lib.compareBytes]
 | x::a,y::b=>by
  simp only [Op.bytesLess,Lib.compareBytes];by_cases p:x<y
  ·simp [p]
  ·by_cases q:y<x
   ·have hne:¬ x=y:=λe=>by subst e; exact p q
    simp [p,q,hne]
   ·have he:x=y:=UInt8.toNat_inj.1 (by rw [UInt8.lt_iff_toNat_lt] at p q; omega)
    subst he;simp [p,zP9 a b]
theorem zyO (a b:Value):ziu a b=(true,zbE (trV a) (trV b)):=by
 unfold ziu zJz zqp zSf;rw [zTW,toList_eq,toList_eq,zP9,z3z];simp only [trV,zbE,zbw,zdc];simp only [Wy.fin_i,Wy.fin_bn,Wy.fin_k,cond_true,zWj];by_cases h1:a.Kind=b.Kind
 ·by_cases h2:a.Int=b.Int
  ·by_cases h3:a.Text=b.Text
   ·simp [h1,h2,h3,zR0]
   ·have h4:zbE (trB a.Text) (trB b.Text)≠0:=λe=>by
     have:=zE7 _ _ (TT.l.inj (zzm _ _ e));exact h3 (zEf this)
    have h5:=z2z (trB a.Text) (trB b.Text);simp only [trB,zbE] at h4 h5;simp only [trB,zbE];rcases h5 with h5 | h5 | h5
    ·simp [h1,h2,h3,h5]
    ·exact absurd h5 h4
    ·simp [h1,h2,h3,h5]
  ·by_cases h3:a.Int<b.Int
   ·simp [h1,h2,h3]
   ·simp [h1,h2,h3,show b.Int<a.Int by omega]
 ·by_cases h3:a.Kind<b.Kind
  ·simp [h1,h3]
  ·simp [h1,h3,show b.Kind<a.Kind by omega]
theorem zra (x y:Int):zcK x y=(true,zdc x y):=by
 unfold zcK zMa zdc;by_cases h1:x<y
 ·simp [h1,Wy.fin_i,Wy.fin_k]
 ·by_cases h2:y<x <;>simp [h1,h2,Wy.fin_i,Wy.fin_k]
theorem zBO (x y:RowID):ziC x y=(true,if zdc x.Table y.Table=0 then zdc x.Seq y.Seq else zdc x.Table y.Table):=by
 unfold ziC zDV;simp only [zra,Wy.fin_i,Wy.fin_bn,Wy.fin_k,cond_true,zWj];by_cases h:zdc x.Table y.Table=0
 ·simp [h]
 ·simp [h]
section
variable {α:Type} [Inhabited α]
def z08 (p q:α->α->Bool×Int) (a:List α) (b:List α) (i:Int):Wy (List α×List α×Int×Unit) Unit (Int⊕(List α×List α)):=.i (decide (i<Int.ofNat a.length)) (.i (decide (i<Int.ofNat b.length)) (.i (decide ((0:Int)<=i)&&decide (i<Int.ofNat a.length)) (.i (decide ((0:Int)<=i)&&decide (i<Int.ofNat b.length)) (.bn (p (a.getD i.toNat default) (b.getD i.toNat default)) λr1=>.i (r1 != (0:Int)) (.k (.inl (r1))) (.i (decide ((0:Int)<=i)&&decide (i<Int.ofNat a.length)) (.i (decide ((0:Int)<=i)&&decide (i<Int.ofNat b.length)) (.bn (q (a.getD i.toNat default) (b.getD i.toNat default)) λr0=>.i (r0 != (0:Int)) (.k (.inl (r0))) (.h (a,b,(IntKind.i64.wrap (i+(1:Int))),()) ())) .d) .d)) .d) .d) (.k (.inr (a,b)))) (.k (.inr (a,b)))
def z4v (p q:α->α->Bool×Int) (x:List α×List α×Int×Unit) (y:Unit):Wy (List α×List α×Int×Unit) Unit (Int⊕(List α×List α)):=z08 p q x.1 x.2.1 x.2.2.1
def z43 (p q:α->α->Bool×Int) (n:Nat) (a:List α) (b:List α) (i:Int):Bool×(Int⊕(List α×List α)):=zD (z4v p q) (.inl default) n (a,b,i,()) ()
def RG (p q:α->α->Bool×Int) (a b:List α):Bool×Int:=(.bn (z43 p q (a.length+b.length+Int.toNat (0:Int)+(1:Nat)) a b (0:Int)) λr5=>.i (isL r5) (.k (getL r5)) (.bn (zcK (Int.ofNat (getR r5).fst.length) (Int.ofNat (getR r5).snd.length)) λr4=>.k r4):Wy0 Int).fin default
theorem z3J (p q:α->α->Bool×Int) (c1 c2:α->α->Int) (a b:List α) (ha:a.length<=1000000) (hp:∀ x∈a,∀ y∈b,p x y=(true,c1 x y)) (hq:∀ x∈a,∀ y∈b,q x y=(true,c2 x y)):∀ (n i:Nat),a.length<i+n->i<=a.length->i<=b.length->
  ∃ r,z43 p q n a b i=(true,r)/\((r=.inl (zvw (λx y=>if c1 x y=0 then c2 x y else c1 x y) (a.drop i) (b.drop i)))\/(r=.inr (a,b)/\zvw (λx y=>if c1 x y=0 then c2 x y else c1 x y) (a.drop i) (b.drop i)=zdc a.length b.length))
 | 0,i,h,h2,h3=>by omega
 | n+1,i,h,h2,h3=>by
  show ∃ r,(z08 p q a b i).ev (λx y=>z43 p q n x.1 x.2.1 x.2.2.1) (λr=>(true,r)) (false,.inl default)=(true,r)/\_
  unfold z08;by_cases hi:i<a.length
  ·by_cases hi':i<b.length
   ·simp only [Wy.ev_i,Wy.ev_k,Wy.ev_h,Wy.ev_bn,Wy.ev_d,tT,hi,hi',hp _ (zT hi) _ (zT hi'),hq _ (zT hi) _ (zT hi')];rw [z6 hi,z6 hi',zbe (by omega)]
    simp only [zvw];generalize c1 (a.getD i default) (b.getD i default)=z1;generalize c2 (a.getD i default) (b.getD i default)=z2;by_cases hx:z1=0
    ·have e:(z1 != 0)=false:=by simp [hx]
     by_cases hx2:z2=0
     ·have e2:(z2 != 0)=false:=by simp [hx2]
      simp only [e,e2,cond_false,hx,hx2,if_true];exact z3J p q c1 c2 a b ha hp hq n (i+1) (by omega) (by omega) (by omega)
     ·have e2:(z2 != 0)=true:=by simp [hx2]
      simp only [e,e2,cond_false,cond_true,hx,hx2,if_true,if_false];exact ⟨_,rfl,.inl rfl⟩
    ·have e:(z1 != 0)=true:=by simp [hx]
     simp only [e,cond_true,hx,if_false];exact ⟨_,rfl,.inl rfl⟩
   ·simp only [Wy.ev_i,Wy.ev_k,Wy.ev_h,Wy.ev_bn,Wy.ev_d,tT,hi,hi'];refine ⟨_,rfl,.inr ⟨rfl, ?_⟩⟩;rw [z6 hi,zc9 hi'];unfold zdc; rw [if_neg (by omega),if_pos (by omega)]; rfl
  ·simp only [Wy.ev_i,Wy.ev_k,Wy.ev_h,Wy.ev_bn,Wy.ev_d,tT,hi];refine ⟨_,rfl,.inr ⟨rfl, ?_⟩⟩;rw [zc9 hi];by_cases hi':i<b.length
   ·rw [z6 hi']; unfold zdc; rw [if_pos (by omega)]; rfl
   ·rw [zc9 hi']; unfold zdc; rw [if_neg (by omega),if_neg (by omega)]; rfl
theorem zbay (p q:α->α->Bool×Int) (c1 c2:α->α->Int) (a b:List α) (ha:a.length<=1000000) (hp:∀ x∈a,∀ y∈b,p x y=(true,c1 x y)) (hq:∀ x∈a,∀ y∈b,q x y=(true,c2 x y)):RG p q a b=(true,zvw (λx y=>if c1 x y=0 then c2 x y else c1 x y) a b):=by
 unfold RG;obtain ⟨r,h1,h2⟩:=z3J p q c1 c2 a b ha hp hq (a.length+b.length+Int.toNat 0+1) 0 (by simp; omega) (by omega) (by omega)
 rw [show ((0:Nat):Int)=(0:Int) from rfl] at h1
 rw [Wy.fin_bn,h1];simp only [List.drop_zero] at h2;rcases h2 with rfl | ⟨rfl,h2⟩
 ·rfl
 ·rw [h2];simp only [Wy.fin_i,Wy.fin_k,Wy.fin_bn,zra,tT,isL,getR]
end
theorem zYX {α:Type} [Inhabited α] (e:α->TT) (p q:α->α->Bool×Int) (c1 c2:α->α->Int) (a b:List α) (ha:a.length<=1000000) (hp:∀ x∈a,∀ y∈b,p x y=(true,c1 x y)) (hq:∀ x∈a,∀ y∈b,q x y=(true,c2 x y))
  (hc:∀ x y,(if c1 x y=0 then c2 x y else c1 x y)=zbE (e x) (e y)):RG p q a b=(true,zbw (a.map e) (b.map e)):=by
 rw [zbay p q c1 c2 a b ha hp hq,zJ5 e a b λx _ y _=>hc x y]
theorem z7y (g):zvJ g=RG (λx y=>g x.Fs y.Fs) (λx y=>zcK x.Cf y.Cf):=rfl
theorem z4S (g):zii g=RG (λx y=>g x.At y.At) (λx y=>zcK x.Exp y.Exp):=by
 have h:zi4 g=z4v (λx y=>g x.At y.At) (λx y=>zcK x.Exp y.Exp):=by
  funext x y
  unfold zi4 zvK z4v z08;rw [At.eta,At.eta]
 funext a b
 unfold zii zwm zvQ;rw [h]; rfl
theorem z7r (g):znB g=RG (λx y=>ziu x.Value y.Value) (λx y=>g x.Ann y.Ann):=rfl
theorem zZP (gI) (g:yB->yB->Bool×Int) (a b:At) (ha:a.Ag.length<=1000000) (hg:∀ x∈a.Ag,∀ y∈b.Ag,g x y=(true,zbw (zc2 x) (zc2 y))):∀ (n i:Nat),a.Ag.length<i+n->i<=a.Ag.length->i<=b.Ag.length->
  ∃ r,zrx g gI n i a b=(true,r)/\((r=.inl (zvw (λx y=>zbw (zc2 x) (zc2 y)) (a.Ag.drop i) (b.Ag.drop i))/\zvw (λx y=>zbw (zc2 x) (zc2 y)) (a.Ag.drop i) (b.Ag.drop i)≠0)\/(r=.inr (a,b)/\zvw (λx y=>zbw (zc2 x) (zc2 y)) (a.Ag.drop i) (b.Ag.drop i)=zdc a.Ag.length b.Ag.length))
 | 0,i,h,h2,h3=>by omega
 | n+1,i,h,h2,h3=>by
  show ∃ r,(zrz g gI i a b).ev (λx y=>zrx g gI n x.2.2.1 y.1 y.2.1) (λr=>(true,r)) (false,.inl default)=(true,r)/\_
  unfold zrz;by_cases hi:i<a.Ag.length
  ·by_cases hi':i<b.Ag.length
   ·simp only [Wy.ev_i,Wy.ev_k,Wy.ev_h,Wy.ev_bn,Wy.ev_d,tT,hi,hi',hg _ (zT hi) _ (zT hi')];rw [z6 hi,z6 hi',zbe (by omega)]
    simp only [zvw];generalize zbw (zc2 (a.Ag.getD i default)) (zc2 (b.Ag.getD i default))=z1;by_cases hx:z1=0
    ·have e:(z1 != 0)=false:=by simp [hx]
     simp only [e,cond_false,hx,if_true];exact zZP gI g a b ha hg n (i+1) (by omega) (by omega) (by omega)
    ·have e:(z1 != 0)=true:=by simp [hx]
     simp only [e,cond_true,hx,if_false];exact ⟨_,rfl,.inl ⟨rfl,hx⟩⟩
   ·simp only [Wy.ev_i,Wy.ev_k,Wy.ev_h,Wy.ev_bn,Wy.ev_d,tT,hi,hi'];refine ⟨_,rfl,.inr ⟨rfl, ?_⟩⟩;rw [z6 hi,zc9 hi'];unfold zdc; rw [if_neg (by omega),if_pos (by omega)]; rfl
  ·simp only [Wy.ev_i,Wy.ev_k,Wy.ev_h,Wy.ev_bn,Wy.ev_d,tT,hi];refine ⟨_,rfl,.inr ⟨rfl, ?_⟩⟩;rw [zc9 hi];by_cases hi':i<b.Ag.length
   ·rw [z6 hi']; unfold zdc; rw [if_pos (by omega)]; rfl
   ·rw [zc9 hi']; unfold zdc; rw [if_neg (by omega),if_neg (by omega)]; rfl
theorem z84 (gI) (g:yB->yB->Bool×Int) (x y:At) (ha:x.Ag.length<=1000000) (hg:∀ a∈x.Ag,∀ b∈y.Ag,g a b=(true,zbw (zc2 a) (zc2 b)))
  (hI:gI x.Items y.Items=(true,zbw (zia x.Items) (zia y.Items))):zky g gI x y=(true,zbE (zgf x) (zgf y)):=by
 unfold zky zzs;rw [At.eta,At.eta];obtain ⟨r,h1,h2⟩:=zZP gI g x y ha hg (Int.toNat 0+x.Ag.length+x.Items.length+y.Ag.length+y.Items.length+1) 0 (by omega) (by omega) (by omega)
 rw [show ((0:Nat):Int)=(0:Int) from rfl] at h1
 simp only [List.drop_zero] at h2;rw [zJ5 (λa=>TT.l (zc2 a)) x.Ag y.Ag (λa _ b _=>by simp only [zbE]), <- zBh, <- zBh] at h2
 simp only [zra,zBO,Wy.fin_bn,Wy.fin_i,Wy.fin_k,cond_true,h1];obtain ⟨k,r0,a,f,i,o,v⟩:=x; obtain ⟨k',r',a',f',i',o',v'⟩:=y;simp only [zgf,zbE,zbw,zWj] at *;by_cases e1:zdc k k'=0
 rotate_left
 ·simp [e1]
 by_cases e2:zdc r0.Table r'.Table=0
 rotate_left
 ·simp [e1,e2]
 by_cases e3:zdc r0.Seq r'.Seq=0
 rotate_left
 ·simp [e1,e2,e3]
 rcases h2 with ⟨rfl,h2⟩ | ⟨rfl,h2⟩
 ·simp [e1,e2,e3,h2,isL,getL]
 simp only [e1,e2,e3,h2,isL,getR,tT,hI,if_true];by_cases e4:zdc (a.length:Int) (a'.length:Int)=0
 rotate_left
 ·simp [e4]
 by_cases e5:zdc f f'=0
 rotate_left
 ·simp [e4,e5]
 by_cases e6:zbw (zia i) (zia i')=0
 rotate_left
 ·simp [e4,e5,e6]
 by_cases e7:zdc o o'=0
 rotate_left
 ·simp [e4,e5,e6,e7]
 simp [e4,e5,e6,e7,zyO]
theorem z2L:∀ n,
  (∀ d a b,zK d a->10*d<=n->zmn n a b=(true,zbw (zc2 a) (zc2 b)))/\
  (∀ d l l',zjn (zK d) l->10*d+10<=n+1->zlg n l l'=(true,zbw (zb6 l) (zb6 l')))/\
  (∀ d x y,zgK (zK d) x->10*d+10<=n+2->zpf n x y=(true,zbE (zgf x) (zgf y)))/\
  (∀ d a b,a.length<=1000000->(∀ x∈a,zK d x.Ann)->10*d+10<=n+3->znZ n a b=(true,zbw (zia a) (zia b)))
 | 0=>by
  refine ⟨?_, ?_, ?_, ?_⟩
  ·intro d a b h hd; have:d=0:=by omega
   subst this; exact h.elim
  all_goals (intros; omega)
 | n+1=>by
  obtain ⟨h1,h2,h3,h4⟩:=z2L n;refine ⟨?_, ?_, ?_, ?_⟩
  ·intro d a b h hd;cases d with
   | zero=>exact h.elim
   | succ d=>
    rw [zSB,z7y,zD7,zD7]
    exact zYX zwt _ _ (λx y=>zbw (zb6 x.Fs) (zb6 y.Fs)) (λx y=>zdc x.Cf y.Cf) a b h.1 (λx hx y hy=>h2 d _ _ (h.2 x hx) (by omega)) (λx _ y _=>zra _ _) λx y=>by
     obtain ⟨c,l⟩:=x; obtain ⟨c',l'⟩:=y;simp only [zwt,zbE,zbw];by_cases e:zdc c c'=0 <;>simp [e]
  ·intro d l l' h hd;rw [zGs,z4S,zuL,zuL]
   exact zYX zoC _ _ (λx y=>zbE (zgf x.At) (zgf y.At)) (λx y=>zdc x.Exp y.Exp) l l' h.1 (λx hx y hy=>h3 d _ _ (h.2 x hx) (by omega)) (λx _ y _=>zra _ _) λx y=>by
    obtain ⟨c,l⟩:=x; obtain ⟨c',l'⟩:=y;simp only [zoC,zbE,zbw];by_cases e:zdc l l'=0 <;>simp [e]
  ·intro d x y h hd;rw [zLy];exact z84 _ _ x y h.1.1 (λa ha b _=>h1 d a b (h.2.1 a ha) (by omega)) (h4 d _ _ h.1.2.1 (λw hw=>(h.2.2 w hw).2) (by omega))
  ·intro d a b h0 h hd;rw [zJe,z7r,zxV,zxV]
   exact zYX zgX _ _ (λx y=>zbE (trV x.Value) (trV y.Value)) (λx y=>zbw (zc2 x.Ann) (zc2 y.Ann)) a b h0 (λx _ y _=>zyO _ _) (λx hx y _=>h1 d _ _ (h x hx) (by omega)) λx y=>by
    obtain ⟨c,l⟩:=x; obtain ⟨c',l'⟩:=y;simp only [zgX,zbE,zbw];by_cases e:zbw (zc2 l) (zc2 l')=0 <;>simp [e]
theorem zWf {d:Nat} {a:yB} (h:zK d a) (hd:d<=100) (b:yB):zEw a b=(true,zbw (zc2 a) (zc2 b)):=(z2L 1000).1 d a b h (by omega)
theorem z0I {d:Nat} {a:yB} (h:zK d a) (hd:d<=100) (b:yB):zAv a b=(true,decide (a=b)):=by
 unfold zAv zR2;rw [Wy.fin_bn,zWf h hd];simp only [cond_true,Wy.fin_k];congr 1;by_cases e:a=b
 ·subst e; rw [zR6]; simp
 ·have:zbw (zc2 a) (zc2 b)≠0:=λh=>e (zDM _ _ (zGH _ _ h))
  simp [e,this]
def zsi (c:Nat->Bool):Nat->Nat->Bool
 | 0,_=>true
 | n+1,i=>c i&&zsi c n (i+1)
theorem zrr {c:Nat->Bool}:∀ {n i},zsi c n i=true↔∀ k,i<=k->k<i+n->c k=true
 | 0,i=>⟨λ_ k h1 h2=>by omega,λ_=>rfl⟩
 | n+1,i=>by
  simp only [zsi,qc,zrr (n:=n)];constructor
  ·rintro ⟨h1,h2⟩ k h3 h4
   by_cases e:k=i
   ·rw [e]; exact h1
   ·exact h2 k (by omega) (by omega)
  ·intro h;exact ⟨h i (by omega) (by omega),λk h1 h2=>h k (by omega) (by omega)⟩
section
variable {α β ρ:Type}
theorem z2R {W:α->β->Wy α β ρ} {z:ρ} (N:Nat) (ex:Nat->α) (ey:Nat->β) (c:Nat->Bool) (no yes:ρ)
  (h:∀ i,i<N->∀ (H:α->β->Bool×ρ) K D,(W (ex i) (ey i)).ev H K D=bif c i then H (ex (i+1)) (ey (i+1)) else K no)
  (he:∀ (H:α->β->Bool×ρ) K D,(W (ex N) (ey N)).ev H K D=K yes):
  ∀ n i,N<i+n->i<=N->zD W z n (ex i) (ey i)=(true,bif zsi c (N - i) i then yes else no)
 | 0,i,h1,h2=>by omega
 | n+1,i,h1,h2=>by
  show (W (ex i) (ey i)).ev (zD W z n) (λr=>(true,r)) (false,z)=_
  by_cases hi:i<N
  ·rw [h i hi,show N - i=(N - (i+1))+1 by omega]
   simp only [zsi];cases c i with
   | false=>rfl
   | true=>rw [cond_true,z2R N ex ey c no yes h he n (i+1) (by omega) (by omega)]; rfl
  ·have:i=N:=by omega
   subst this;rw [he,Nat.sub_self]; rfl
theorem zD3 {W:α->β->Wy α β ρ} {z:ρ} (N:Nat) (ex:Nat->α) (ey:Nat->β) (c:Nat->Bool) (no yes:ρ)
  (h:∀ i,i<N->∀ (H:α->β->Bool×ρ) K D,(W (ex i) (ey i)).ev H K D=bif c i then H (ex (i+1)) (ey (i+1)) else K no)
  (he:∀ (H:α->β->Bool×ρ) K D,(W (ex N) (ey N)).ev H K D=K yes) (n:Nat) (hn:N<n):zD W z n (ex 0) (ey 0)=(true,bif zsi c N 0 then yes else no):=by
 have:=z2R (z:=z) N ex ey c no yes h he n 0 (by omega) (by omega)
 simpa using this
end
def ixf {α:Type} (p:α->Bool):List α->Nat->Int
 | [],_=> -1
 | x::r,i=>bif p x then (i:Int) else ixf p r (i+1)
theorem z3w {α:Type} (p:α->Bool):∀ (l:List α) (i:Nat),decide (ixf p l i≥(0:Int))=l.any p
 | [],i=>by simp [ixf]
 | x::r,i=>by
  rw [List.any_cons];cases h:p x with
  | true=>simp [ixf,h]
  | false=>simpa [ixf,h] using z3w p r (i+1)
section
variable {α γ:Type} [Inhabited α]
def z0Y (p:γ->α->Bool×Bool) (s:List α) (g:γ) (t7:Int) (t8:Int):Wy (List α×γ×Int×Int×Unit) Unit (Int⊕Unit):=.i (decide (t8<t7)) (.i (decide ((0:Int)<=t8)&&decide (t8<Int.ofNat s.length)) (.bn (p g (s.getD t8.toNat default)) λr0=>.i (r0) (.k (.inl t8)) (.h (s,g,t7,(IntKind.i64.wrap (t8+(1:Int))),()) ())) .d) (.k (.inr ()))
def z5d (p:γ->α->Bool×Bool) (x:List α×γ×Int×Int×Unit) (y:Unit):Wy (List α×γ×Int×Int×Unit) Unit (Int⊕Unit):=z0Y p x.1 x.2.1 x.2.2.1 x.2.2.2.1
def z5l (p:γ->α->Bool×Bool) (n:Nat) (s:List α) (g:γ) (t7:Int) (t8:Int):Bool×(Int⊕Unit):=zD (z5d p) (.inl default) n (s,g,t7,t8,()) ()
def IG (p:γ->α->Bool×Bool) (n:Nat) (g:γ) (s:List α):Bool×Int:=(.bn (z5l p n s g (Int.ofNat s.length) (0:Int)) λr2=>.i (isL r2) (.k (getL r2)) (.k (-1:Int)):Wy0 Int).fin default
def z4U (p:γ->α->Bool×Bool) (s:List α) (g:γ) (t7:Int) (t8:Int):Wy (List α×γ×Int×Int×Unit) Unit (Int⊕Unit):=.i (decide (t8<t7)) (.i (decide ((0:Int)<=t8)&&decide (t8<Int.ofNat s.length)) (.i ((p g (s.getD t8.toNat default)).snd) (.k (.inl t8)) (.h (s,g,t7,(IntKind.i64.wrap (t8+(1:Int))),()) ())) .d) (.k (.inr ()))
def zbaL (p:γ->α->Bool×Bool) (x:List α×γ×Int×Int×Unit) (y:Unit):Wy (List α×γ×Int×Int×Unit) Unit (Int⊕Unit):=z4U p x.1 x.2.1 x.2.2.1 x.2.2.2.1
def z4G (p:γ->α->Bool×Bool) (n:Nat) (s:List α) (g:γ) (t7:Int) (t8:Int):Bool×(Int⊕Unit):=zD (zbaL p) (.inl default) n (s,g,t7,t8,()) ()
def IH (p:γ->α->Bool×Bool) (n:Nat) (g:γ) (s:List α):Bool×Int:=(.bn (z4G p n s g (Int.ofNat s.length) (0:Int)) λr2=>.i (isL r2) (.k (getL r2)) (.k (-1:Int)):Wy0 Int).fin default
theorem z32 (p:γ->α->Bool×Bool) (P:α->Bool) (g:γ) (s:List α) (hs:s.length<=1000000000) (hp:∀ x∈s,p g x=(true,P x)):∀ (n i:Nat),s.length<i+n->i<=s.length->
  ∃ r,z5l p n s g s.length i=(true,r)/\((r=.inl (ixf P (s.drop i) i))\/(r=.inr ()/\ixf P (s.drop i) i= -1))
 | 0,i,h,h2=>by omega
 | n+1,i,h,h2=>by
  show ∃ r,(z0Y p s g s.length i).ev (λx y=>z5l p n x.1 x.2.1 x.2.2.1 x.2.2.2.1) (λr=>(true,r)) (false,.inl default)=(true,r)/\_
  unfold z0Y;by_cases hi:i<s.length
  ·simp only [Wy.ev_i,Wy.ev_k,Wy.ev_h,Wy.ev_bn,Wy.ev_d,tT,hi,hp _ (zT hi)];rw [z6 hi,zbe (by omega)]
   simp only [ixf];cases P (s.getD i default) with
   | true=>exact ⟨_,rfl,.inl rfl⟩
   | false=>exact z32 p P g s hs hp n (i+1) (by omega) (by omega)
  ·simp only [Wy.ev_i,Wy.ev_k,Wy.ev_h,Wy.ev_bn,Wy.ev_d,tT,hi,zc9 hi];exact ⟨_,rfl,.inr ⟨rfl,rfl⟩⟩
theorem zYq (p:γ->α->Bool×Bool) (P:α->Bool) (n:Nat) (g:γ) (s:List α) (hs:s.length<=1000000000) (hp:∀ x∈s,p g x=(true,P x)) (hn:s.length<n):IG p n g s=(true,ixf P s 0):=by
 unfold IG;obtain ⟨r,h1,h2⟩:=z32 p P g s hs hp n 0 (by omega) (by omega)
 rw [show ((0:Nat):Int)=(0:Int) from rfl] at h1
 rw [Wy.fin_bn,show Int.ofNat s.length=(s.length:Int) from rfl,h1]
 rw [List.drop_zero] at h2;rcases h2 with rfl | ⟨rfl,h2⟩
 ·rfl
 ·rw [h2]; rfl
theorem z3E (p:γ->α->Bool×Bool) (P:α->Bool) (g:γ) (s:List α) (hs:s.length<=1000000000) (hp:∀ x∈s,p g x=(true,P x)):∀ (n i:Nat),s.length<i+n->i<=s.length->
  ∃ r,z4G p n s g s.length i=(true,r)/\((r=.inl (ixf P (s.drop i) i))\/(r=.inr ()/\ixf P (s.drop i) i= -1))
 | 0,i,h,h2=>by omega
 | n+1,i,h,h2=>by
  show ∃ r,(z4U p s g s.length i).ev (λx y=>z4G p n x.1 x.2.1 x.2.2.1 x.2.2.2.1) (λr=>(true,r)) (false,.inl default)=(true,r)/\_
  unfold z4U;by_cases hi:i<s.length
  ·simp only [Wy.ev_i,Wy.ev_k,Wy.ev_h,Wy.ev_bn,Wy.ev_d,tT,hi,hp _ (zT hi)];rw [z6 hi,zbe (by omega)]
   simp only [ixf];cases P (s.getD i default) with
   | true=>exact ⟨_,rfl,.inl rfl⟩
   | false=>exact z3E p P g s hs hp n (i+1) (by omega) (by omega)
  ·simp only [Wy.ev_i,Wy.ev_k,Wy.ev_h,Wy.ev_bn,Wy.ev_d,tT,hi,zc9 hi];exact ⟨_,rfl,.inr ⟨rfl,rfl⟩⟩
theorem zbax (p:γ->α->Bool×Bool) (P:α->Bool) (n:Nat) (g:γ) (s:List α) (hs:s.length<=1000000000) (hp:∀ x∈s,p g x=(true,P x)) (hn:s.length<n):IH p n g s=(true,ixf P s 0):=by
 unfold IH;obtain ⟨r,h1,h2⟩:=z3E p P g s hs hp n 0 (by omega) (by omega)
 rw [show ((0:Nat):Int)=(0:Int) from rfl] at h1
 rw [Wy.fin_bn,show Int.ofNat s.length=(s.length:Int) from rfl,h1]
 rw [List.drop_zero] at h2;rcases h2 with rfl | ⟨rfl,h2⟩
 ·rfl
 ·rw [h2]; rfl
theorem zuT {α:Type} {s:List α} {P:α->Bool} {q:Bool×Int} (h:q=(true,ixf P s 0)):((.bn q λr0=>.k (decide (r0≥(0:Int))):Wy0 Bool).fin default)=(true,s.any P):=by
 rw [h,Wy.fin_bn,cond_true,Wy.fin_k,z3w]
end
theorem zLD (a b:Int):(a==b)=decide (a=b):=by by_cases h:a=b <;>simp [h]
theorem z6W (a b:Nat):(a==b)=decide (a=b):=by by_cases h:a=b <;>simp [h]
theorem i0 (l:Nat):((l:Int)==0)=(l==0):=by
 rw [zLD,z6W]; congr 1; simp
def zVX (a:yB):Bool:=a.any λt=>t.Fs.length==0
theorem zY6 (a:yB) (h:a.length<=1000000000):zek a=(true,zVX a):=by
 unfold zek zwN zcR zgO;have:zdf a=IH (λ(_:Unit) x=>zge x) (a.length+(Int.ofNat a.length).toNat +Int.toNat (0:Int)+(1:Nat)) () a:=rfl
 rw [zuT (P:=λt:Term=>t.Fs.length==0) (this.trans (zbax _ _ _ _ _ h (λx _=>by
  unfold zge ztc;rw [Wy.fin_k];congr 1;exact i0 x.Fs.length) (by omega)))]
 rfl
def isC:yB->Bool
 | [t]=>t.Fs.length==0
 | _=>false
theorem z0b (a:yB):zgu a=(true,isC a):=by
 unfold zgu zxw
 match a with
 | []=>rfl
 | [t]=>exact congrArg (Prod.mk true) (i0 t.Fs.length)
 | t::u::r=>
  have:((Int.ofNat (t::u::r).length)==(1:Int))=false:=by simp; omega
  rw [Wy.fin_i,this]; rfl
def zba9 (p:Fc->Bool):yC->Bool
 | [f]=>p f
 | _=>false
def isU:yB->Bool
 | [t]=>t.Cf==1&&zba9 (λf=>f.Exp==1&&(f.At.Kind==2||f.At.Kind==3||f.At.Kind==4)) t.Fs
 | _=>false
theorem z4b (x:At):zeR x=(true,x.Kind==3||x.Kind==4):=by
 unfold zeR zxh;rw [Wy.fin_i,Wy.fin_k,Wy.fin_k];cases x.Kind==3 <;>rfl
theorem z4j {τ:Type} (x y:τ) (r:List τ):((Int.ofNat (x::y::r).length)==(1:Int))=false:=by
 rw [beq_eq_false_iff_ne]; simp; omega
theorem z6e (a:yB):zj4 a=(true,isU a):=by
 unfold zj4 zBM
 match a with
 | []=>rfl
 | ⟨c,[]⟩::[]=>
  show (bif c != 1 then (true,false) else (true,false))=(true,c==1&&false)
  cases c != 1 <;>simp
 | ⟨c,[f]⟩::[]=>
  simp only [Wy.fin_i,Wy.fin_k,tT,isU,List.length_singleton,z4b,Wy.fin_bn,Wy.fin_d];show (bif c != 1 then (true,false) else bif f.Exp==1 then bif f.At.Kind==2 then (true,true) else (true,f.At.Kind==3||f.At.Kind==4) else (true,false))=(true,c==1&&(f.Exp==1&&(f.At.Kind==2||f.At.Kind==3||f.At.Kind==4)))
  rw [show (c != 1)= !(c==1) from rfl]
  cases c==1 <;>cases f.Exp==1 <;>cases f.At.Kind==2 <;>simp
 | ⟨c,f::g::r⟩::[]=>
  simp only [Wy.fin_i,bne,z4j];show (bif !(c==1) then (true,false) else (true,false))=(true,c==1&&false)
  cases c==1 <;>rfl
 | t::u::r=>rw [Wy.fin_i,bne,z4j]; rfl
theorem z2J (a b:Nat):decide (a>b)= !decide (a<=b):=by
 by_cases h:a<=b
 ·have:¬ a>b:=by omega
  simp [h,this]
 ·have:a>b:=by omega
  simp [h,this]
def zOT (t:Term):Bool:= !(decide (t.Fs.length>64)||t.Fs.any λf=>decide (f.Exp>64)||decide (f.At.Items.length>1024))
def zrZ (a:yB):Bool:=decide (a.length<=512)&&decide (zbD a<=8)&&decide (zW a<=4096)&&a.all zOT
theorem z4Q (l:yC) (h:l.length<=1000000):zcg l=(true,l.any λf=>decide (f.Exp>64)||decide (f.At.Items.length>1024)):=by
 unfold zcg zhd
 have hw:zc1=z5d (λ(_:Unit) x=>zfj x):=by
  funext x y
  unfold zc1 zh7 z5d z0Y;rw [Fc.eta2]
 have:zcA l=IG (λ(_:Unit) x=>zfj x) (l.length+(Int.ofNat l.length).toNat +Int.toNat (0:Int)+(1:Nat)) () l:=by
  unfold zcA zij zh9;rw [hw]; rfl
 exact zuT (this.trans (zYq _ _ _ _ _ (by omega) (λx _=>by
  unfold zfj zvA;rw [Wy.fin_i,Wy.fin_k,Wy.fin_k];have e:decide (Int.ofNat x.At.Items.length>(1024:Int))=decide (x.At.Items.length>1024):=zyg _ 1024;rw [e];cases decide (x.Exp>64) <;>rfl) (by omega)))
theorem z5z {d:Nat} {a:yB} (h:zK d a) (hd:d<=100) (hs:zW a<=4611686018427387904):zjZ a=(true,zrZ a):=by
 obtain ⟨h1,h2⟩:a.length<=1000000/\∀ t∈a,t.Fs.length<=1000000:=by
  cases d with
  | zero=>exact h.elim
  | succ d=>exact ⟨h.1,λt ht=>(h.2 t ht).1⟩
 have h3:zb9 a=(true,a.any λt=> !zOT t):=by
  unfold zb9 zgZ;have:zdd a=IG (λ(_:Unit) x=>zjC x) (a.length+(Int.ofNat a.length).toNat +Int.toNat (0:Int)+(1:Nat)) () a:=rfl
  exact zuT (this.trans (zYq _ _ _ _ _ (by omega) (λx hx=>by
   unfold zjC zxR;rw [Wy.fin_i,Wy.fin_k,Wy.fin_bn,z4Q _ (h2 x hx)];have e:decide (Int.ofNat x.Fs.length>(64:Int))=decide (x.Fs.length>64):=zyg _ 64;rw [e];unfold zOT;cases decide (x.Fs.length>64) <;>simp [Wy.fin_k]) (by omega)))
 unfold zjZ zB0;have n1:zwl a=(true,(zbD a:Int)):=(z3K 1000 d a h (by omega) hd).1
 have n2:zAx a=(true,(zW a:Int)):=(z1N 1000 d a h (by omega) hs).1
 simp only [Wy.fin_i,Wy.fin_k,Wy.fin_bn,n1,n2,h3,cond_true];have e1:decide (Int.ofNat a.length>(512:Int))= !decide (a.length<=512):=by rw [show decide (Int.ofNat a.length>(512:Int))=decide (a.length>512) from zyg _ 512]; exact z2J _ _
 have e2:decide ((zbD a:Int)>(8:Int))= !decide (zbD a<=8):=by rw [show decide ((zbD a:Int)>(8:Int))=decide (zbD a>8) from zyg _ 8]; exact z2J _ _
 have e3:decide ((zW a:Int)>(4096:Int))= !decide (zW a<=4096):=by rw [show decide ((zW a:Int)>(4096:Int))=decide (zW a>4096) from zyg _ 4096]; exact z2J _ _
 have e4:(a.any λt=> !zOT t)= !a.all zOT:=by simp [List.all_eq_not_any_not]
 rw [e1,e2,e3,e4];unfold zrZ;cases decide (a.length<=512) <;>cases decide (zbD a<=8) <;>cases decide (zW a<=4096) <;>simp
def zAz (v:Value):Bool:=(v.Kind==0&&v.Text.size==0)||(v.Kind==1&&v.Int==0&&decide (v.Text.size<=255))||(v.Kind==2&&v.Text.size==0&&(v.Int==0||v.Int==1))
theorem z7L (s:ByteArray):(s.toList==(ByteArray.mk #[]).toList)=(s.size==0):=by
 rw [zTW];by_cases h:s.size=0
 ·have:s=ByteArray.mk #[]:=zEf (by
   have:s.data.toList.length=0:=by simpa using h
   rw [List.length_eq_zero_iff.1 this])
  subst this; rfl
 ·have:¬ s=ByteArray.mk #[]:=λe=>h (by rw [e]; rfl)
  simp [h,this]
theorem zMG (v:Value):zob v=(true,zAz v):=by
 unfold zob zPY zAz;simp only [z7L,Wy.fin_i,Wy.fin_k,zLD,z6W];have e:decide (Int.ofNat v.Text.size<=(255:Int))=decide (v.Text.size<=255):=zuC _ 255;rw [e];by_cases h0:v.Kind=0
 ·simp [h0]
 ·by_cases h1:v.Kind=1
  ·by_cases h2:v.Int=0 <;>simp [h1,h2]
  ·by_cases h2:v.Kind=2
   ·by_cases h3:v.Int=0
    ·simp [h2,h3]
    ·by_cases h4:v.Int=1 <;>simp [h2,h3,h4]
   ·simp [h0,h1,h2]
def zYI (fn:Int) (b:Value) (w:Wd):Bool:=zAz w.Value&&(w.Value.Kind==b.Kind)&& !(fn==0&&w.Value.Int != 1)
def zIa (fn:Int) (l:yD) (op:Int) (b:Value):Bool:=decide (0<=fn)&&decide (fn<=3)&&decide (5<=op)&&decide (op<=10)&&zAz b&& !(decide (fn<=1)&&b.Kind != 0)&&l.all (zYI fn b)
theorem z6X (l:yD) (fn:Int) (b:Value) (h:l.length<=1000000):zbn l b fn=(true, !l.all (zYI fn b)):=by
 unfold zbn zfX;have:zcS l b fn=IG (λ(g:Value×(Int×Unit)×Unit) x=>zgn x g.1 g.2.1.1) (l.length+fn.toNat +(Int.ofNat l.length).toNat +Int.toNat (0:Int)+(1:Nat)) (b,(fn,()),()) l:=rfl
 have e:(!l.all (zYI fn b))=l.any λw=> !zYI fn b w:=by simp [List.all_eq_not_any_not]
 rw [e]
 exact zuT (this.trans (zYq _ _ _ _ _ (by omega) (λx _=>by
  show zgn x b fn=_;unfold zgn zw7 zYI;simp only [Wy.fin_i,Wy.fin_k,Wy.fin_bn,zMG,cond_true,zLD,zWj];cases zAz x.Value <;>by_cases h1:x.Value.Kind=b.Kind <;>by_cases h2:fn=0 <;>simp [zLD,zWj,h1,h2]) (by omega)))
theorem z4I (fn:Int) (l:yD) (op:Int) (b:Value) (h:l.length<=1000000):ziR fn l op b=(true,zIa fn l op b):=by
 unfold ziR zBr zIa;simp only [Wy.fin_i,Wy.fin_k,Wy.fin_bn,zMG,z6X l fn b h,cond_true,zLD,zWj];by_cases h1:fn<0
 ·have:¬ (0<=fn):=by omega
  simp [h1,this]
 by_cases h2:3<fn
 ·have:¬ (fn<=3):=by omega
  simp [h1,h2,this]
 by_cases h3:op<5
 ·have:¬ (5<=op):=by omega
  simp [h1,h2,h3,this]
 by_cases h4:10<op
 ·have:¬ (op<=10):=by omega
  simp [h1,h2,h3,h4,this]
 have g1:0<=fn:=by omega
 have g2:fn<=3:=by omega
 have g3:5<=op:=by omega
 have g4:op<=10:=by omega
 cases zAz b with
 | false=>simp [h1,h2,h3,h4]
 | true=>
  by_cases h5:fn=0
  ·subst h5; by_cases h6:b.Kind=0 <;>simp [h3,h4,h6,g3,g4]
  ·by_cases h7:fn=1
   ·subst h7; by_cases h6:b.Kind=0 <;>simp [h3,h4,h6,g3,g4]
   ·have:¬ fn<=1:=by omega
    simp [h1,h2,h3,h4,h5,h7,this,g1,g2,g3,g4]
def bz (b:Value):Bool:=b.Kind==(0:Int)&&(b.Int==(0:Int)&&(b.Text.toList==(ByteArray.mk #[]).toList&&true))
def plA (x:At):Bool:=x.Func==0&&(x.Items.length==0)&&x.Op==0&&bz x.Bd
def zYB (l:yD) (k:Nat):Bool:=decide (k=0)||decide (zbE (zgX (l.getD (k - 1) default)) (zgX (l.getD k default))<=0)
def z1Z (l:yD):Bool:=zsi (zYB l) l.length 0
theorem zZK (c:Nat->Bool):∀ n i,zsi c (n+1) i=(zsi c n i&&c (i+n))
 | 0,i=>by simp [zsi]
 | n+1,i=>by
  rw [zsi,zZK c n (i+1),zsi,show i+1+n=i+(n+1) by omega,Bool.and_assoc]
theorem zQd {d:Nat} (l:yD) (hl:l.length<=1000000) (h:∀ w∈l,zK d w.Ann) (hd:d<=99):∀ (n i:Nat),i<l.length->i<n->zdG n l i=(true,bif zsi (zYB l) (i+1) 0 then .inr () else .inl false)
 | 0,i,hi,hn=>by omega
 | n+1,i,hi,hn=>by
  show (zdH l i).ev (λx y=>zdG n x.1 x.2.2.1) (λr=>(true,r)) (false,.inl default)=_
  unfold zdH;have hg:decide ((i:Int)>(0:Int))=decide (0<i):=zyg i 0;cases i with
  | zero=>simp [Wy.ev_i,Wy.ev_k,zsi,zYB]
  | succ i=>
   have hi':i<l.length:=by omega
   have hw:IntKind.i64.wrap (((i+1:Nat):Int) - 1)=(i:Int):=by rw [zzF (by omega) (by omega)]; rfl
   have hp:decide (0<i+1)=true:=by simp
   simp only [Wy.ev_i,Wy.ev_k,Wy.ev_h,Wy.ev_bn,Wy.ev_d,hg,hp,hw,tT,hi,hi',zEM (h _ (zT hi)) hd];rw [zQd l hl h hd n i hi' (by omega),zZK _ (i+1),Nat.zero_add]
   have:zYB l (i+1)= !decide (zbE (zgX (l.getD (i+1) default)) (zgX (l.getD i default))<0):=by
    unfold zYB;rw [show i+1 - 1=i from rfl,zzH (zgX (l.getD (i+1) default)) (zgX (l.getD i default))]
    generalize zbE (zgX (l.getD (i+1) default)) (zgX (l.getD i default))=z;by_cases hz:z<0
    ·have:¬ (-z<=0):=by omega
     simp [hz,this]
    ·have:(-z<=0):=by omega
     simp [hz,this]
   rw [this];cases decide (zbE (zgX (l.getD (i+1) default)) (zgX (l.getD i default))<0) <;>simp
theorem z3m {d:Nat} (l:yD) (hl:l.length<=1000000) (h:∀ w∈l,zK d w.Ann) (hd:d<=99):zb8 l=(true,z1Z l):=by
 unfold zb8 zgL z1Z
 match l,hl,h with
 | [],_,_=>rfl
 | x::r,hl,h=>
  have hw:IntKind.i64.wrap (Int.ofNat (x::r).length - 1)=(r.length:Int):=by
   rw [qf] at hl;rw [show Int.ofNat (x::r).length=(((x::r).length:Nat):Int) from rfl,zzF (by simp) (by simp; omega)]; rfl
  rw [Wy.fin_bn,hw,zQd (x::r) hl h hd _ r.length (by simp) (by simp; omega)]
  cases zsi (zYB (x::r)) (r.length+1) 0 with
  | true=>simp [Wy.fin_i,Wy.fin_k,isL]
  | false=>simp [Wy.fin_i,Wy.fin_k,isL,getL]
end Go.Proofs.YtoknknbmfmddbaaGreatDoor
end
