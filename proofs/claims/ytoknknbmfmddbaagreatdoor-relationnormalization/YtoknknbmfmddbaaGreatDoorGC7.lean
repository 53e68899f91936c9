/- Texts of this claim, joined (the program, its functions in plain words, and what they compute). -/
import Derived.Test.YtoknknbmfmddbaaGreatDoorGC6
set_option autoImplicit false
set_option linter.unusedVariables false
set_option linter.unusedSectionVars false
set_option linter.unusedSimpArgs false
set_option maxRecDepth 1000000
set_option maxHeartbeats 0
/- The program's comparison of annotations is the order of trees. -/
noncomputable section
namespace Go.Proofs.YtoknknbmfmddbaaGreatDoor
open Go Go.Ab
theorem zyv (x y:Int):zeS x y=(true,zd8 x y):=by
 unfold zeS zIn zsp zMW zd8;by_cases h1:x<y
 ·simp [h1,Wy.fin_i,Wy.fin_k]
 ·by_cases h2:y<x <;>simp [h1,h2,Wy.fin_i,Wy.fin_k]
theorem zv8 (x y:Int):zi3 x y=(true,zd8 x y):=by
 unfold zi3 zEC zn8 zIE zd8;by_cases h1:x<y
 ·simp [h1,Wy.fin_i,Wy.fin_k]
 ·by_cases h2:y<x <;>simp [h1,h2,Wy.fin_i,Wy.fin_k]
def zuH:List Int->Int
 | []=>0
 | x::r=>if x=0 then zuH r else x
theorem zbaL (l:List Int) (hl:l.length<=1000000):∀ (n i:Nat),l.length<i+n->i<=l.length->∃ r,zHB n 0 l l.length i=(true,r)/\(r=.inl (zuH (l.drop i))\/(r=.inr 0/\zuH (l.drop i)=0))
 | 0,i,h,h2=>by omega
 | n+1,i,h,h2=>by
  show ∃ r,(zIf 0 l l.length i).ev (λx y=>zHB n x.1 x.2.1 x.2.2.1 x.2.2.2.1) (λr=>(true,r)) (false,.inl default)=(true,r)/\_
  unfold zIf;by_cases hi:i<l.length
  ·simp only [Wy.ev_i,Wy.ev_k,Wy.ev_h,Int.ofNat_eq_natCast,zAM,zep,decide_true,decide_false,Bool.and_self,Bool.true_and,Bool.and_true,cond_true,cond_false,Int.toNat_natCast,Bool.not_true,Bool.not_false,hi];obtain ⟨r,h1,h3⟩:=zbaL l hl n (i+1) (by omega) (by omega)
   rw [zbg hi,zw (by omega),h1]
   generalize l.getD i default=x;by_cases hx:x=0
   ·have e:(x != 0)=false:=by simp [hx]
    simp only [e,cond_false,zuH,hx,if_true];exact ⟨r,rfl,h3⟩
   ·have e:(x != 0)=true:=by simp [hx]
    simp only [e,cond_true,zuH,hx,if_false];exact ⟨_,rfl,.inl rfl⟩
  ·simp only [Wy.ev_i,Wy.ev_k,Wy.ev_h,Int.ofNat_eq_natCast,zAM,zep,decide_true,decide_false,Bool.and_self,Bool.true_and,Bool.and_true,cond_true,cond_false,Int.toNat_natCast,Bool.not_true,Bool.not_false,hi,zco hi];exact ⟨_,rfl,.inr ⟨rfl,rfl⟩⟩
theorem zw4 (l:List Int) (hl:l.length<=1000000):zps l=(true,zuH l):=by
 unfold zps zXy;obtain ⟨r,h1,h2⟩:=zbaL l hl (Int.toNat 0+l.length+(Int.ofNat l.length).toNat +Int.toNat 0+1) 0 (by simp; omega) (by omega)
 rw [show ((0:Nat):Int)=(0:Int) from rfl] at h1
 rw [Wy.fin_bn,show Int.ofNat l.length=(l.length:Int) from rfl] at *
 rw [h1];rw [List.drop_zero] at h2;rcases h2 with rfl | ⟨rfl,h2⟩
 ·rfl
 ·rw [h2]; rfl
section
variable {α:Type}
def zxm (c:α->α->Int):List α->List α->Int
 | [],[]=>0
 | [],_::_=> -1
 | _::_,[]=>1
 | x::a,y::b=>if c x y=0 then zxm c a b else c x y
theorem zNl (e:α->TT) {c:α->α->Int}:∀ (a b:List α),(∀ x∈a,∀ y∈b,c x y=zbb (e x) (e y))->zxm c a b=zbr (a.map e) (b.map e)
 | [],[],_=>by simp only [zxm,List.map,zbr]
 | [],_::_,_=>by simp only [zxm,List.map,zbr]
 | _::_,[],_=>by simp only [zxm,List.map,zbr]
 | x::a,y::b,h=>by
  simp only [zxm,List.map,zbr];rw [h x (by simp) y (by simp),zNl e a b λx hx y hy=>h x (by simp [hx]) y (by simp [hy])]
variable [Inhabited α]
def z7j (g:α->α->Bool×Int) (s1:List α) (s2:List α) (t11:List α) (t12:Int) (t13:Int):Wy (List α×List α×Unit×List α×Int×Int×Unit) Unit (Int⊕(List α×List α)):=.i (decide (t13<t12)) (.i (decide ((0:Int)<=t13)&&decide (t13<Int.ofNat t11.length)) (.i (decide (t13≥Int.ofNat s2.length)) (.k (.inl (1:Int))) (.i (decide ((0:Int)<=t13)&&decide (t13<Int.ofNat s2.length)) (.bn (g (t11.getD t13.toNat default) (s2.getD t13.toNat default)) λr0=>.i (r0 != (0:Int)) (.k (.inl (r0))) (.h (s1,s2,(),t11,t12,(IntKind.i64.wrap (t13+(1:Int))),()) ())) .d)) .d) (.k (.inr (s1,s2)))
def zbbs (g:α->α->Bool×Int) (x:List α×List α×Unit×List α×Int×Int×Unit) (y:Unit):Wy (List α×List α×Unit×List α×Int×Int×Unit) Unit (Int⊕(List α×List α)):=z7j g x.1 x.2.1 x.2.2.2.1 x.2.2.2.2.1 x.2.2.2.2.2.1
def zbce (g:α->α->Bool×Int) (n:Nat) (s1:List α) (s2:List α) (t11:List α) (t12:Int) (t13:Int):Bool×(Int⊕(List α×List α)):=zB (zbbs g) (.inl default) n (s1,s2,(),t11,t12,t13,()) ()
def CF (g:α->α->Bool×Int) (s1 s2:List α):Bool×Int:=(.bn (zbce g (s1.length+s2.length+s1.length+(Int.ofNat s1.length).toNat +Int.toNat (0:Int)+(1:Nat)) s1 s2 s1 (Int.ofNat s1.length) (0:Int)) λr2=>.i (isL r2) (.k (getL r2)) (.i (decide (Int.ofNat (getR r2).fst.length<Int.ofNat (getR r2).snd.length)) (.k (-1:Int)) (.k (0:Int))):Wy0 Int).fin default
theorem zbaY (g:α->α->Bool×Int) (c:α->α->Int) (a b:List α) (ha:a.length<=1000000) (hg:∀ x∈a,∀ y∈b,g x y=(true,c x y)):∀ (n i:Nat),a.length<i+n->i<=a.length->i<=b.length->
  ∃ r,zbce g n a b a a.length i=(true,r)/\((r=.inl (zxm c (a.drop i) (b.drop i)))\/(r=.inr (a,b)/\zxm c (a.drop i) (b.drop i)=if a.length<b.length then -1 else 0))
 | 0,i,h,h2,h3=>by omega
 | n+1,i,h,h2,h3=>by
  show ∃ r,(z7j g a b a a.length i).ev (λx y=>zbce g n x.1 x.2.1 x.2.2.2.1 x.2.2.2.2.1 x.2.2.2.2.2.1) (λr=>(true,r)) (false,.inl default)=(true,r)/\_
  unfold z7j;by_cases hi:i<a.length
  ·by_cases hi':i<b.length
   ·have hg':¬ b.length<=i:=by omega
    simp only [Wy.ev_i,Wy.ev_k,Wy.ev_h,Wy.ev_bn,Wy.ev_d,Int.ofNat_eq_natCast,zAM,zep,decide_true,decide_false,Bool.and_self,Bool.true_and,Bool.and_true,cond_true,cond_false,Int.toNat_natCast,Bool.not_true,Bool.not_false,hi,hi',zbci,hg',hg _ (zn hi) _ (zn hi')];rw [zbg hi,zbg hi',zw (by omega)]
    simp only [zxm];generalize c (a.getD i default) (b.getD i default)=z;by_cases hx:z=0
    ·have e:(z != 0)=false:=by simp [hx]
     simp only [e,cond_false,hx,if_true];exact zbaY g c a b ha hg n (i+1) (by omega) (by omega) (by omega)
    ·have e:(z != 0)=true:=by simp [hx]
     simp only [e,cond_true,hx,if_false];exact ⟨_,rfl,.inl rfl⟩
   ·have hg':b.length<=i:=by omega
    simp only [Wy.ev_i,Wy.ev_k,Wy.ev_h,Wy.ev_bn,Wy.ev_d,Int.ofNat_eq_natCast,zAM,zep,decide_true,decide_false,Bool.and_self,Bool.true_and,Bool.and_true,cond_true,cond_false,Int.toNat_natCast,Bool.not_true,Bool.not_false,hi,zbci,hg'];refine ⟨_,rfl,.inl ?_⟩;rw [zbg hi,zco hi']; rfl
  ·simp only [Wy.ev_i,Wy.ev_k,Wy.ev_h,Wy.ev_bn,Wy.ev_d,Int.ofNat_eq_natCast,zAM,zep,decide_true,decide_false,Bool.and_self,Bool.true_and,Bool.and_true,cond_true,cond_false,Int.toNat_natCast,Bool.not_true,Bool.not_false,hi];refine ⟨_,rfl,.inr ⟨rfl, ?_⟩⟩;rw [zco hi];by_cases hi':i<b.length
   ·rw [zbg hi',if_pos (by omega)]; rfl
   ·rw [zco hi',if_neg (by omega)]; rfl
theorem zbhR (g:α->α->Bool×Int) (c:α->α->Int) (a b:List α) (ha:a.length<=1000000) (hg:∀ x∈a,∀ y∈b,g x y=(true,c x y)):CF g a b=(true,zxm c a b):=by
 unfold CF;obtain ⟨r,h1,h2⟩:=zbaY g c a b ha hg (a.length+b.length+a.length+(Int.ofNat a.length).toNat +Int.toNat 0+1) 0 (by simp; omega) (by omega) (by omega)
 rw [show ((0:Nat):Int)=(0:Int) from rfl] at h1
 rw [Wy.fin_bn,show Int.ofNat a.length=(a.length:Int) from rfl] at *
 rw [h1];simp only [List.drop_zero] at h2;rcases h2 with rfl | ⟨rfl,h2⟩
 ·rfl
 ·rw [h2];simp only [Wy.fin_i,Wy.fin_k,Int.ofNat_eq_natCast,zAM,zep,decide_true,decide_false,Bool.and_self,Bool.true_and,Bool.and_true,cond_true,cond_false,Int.toNat_natCast,Bool.not_true,Bool.not_false,isL,getR];by_cases h3:a.length<b.length <;>simp [h3]
end
theorem zPS {α:Type} [Inhabited α] (e:α->TT) (g:α->α->Bool×Int) (a b:List α) (ha:a.length<=1000000) (hg:∀ x∈a,∀ y∈b,g x y=(true,zbb (e x) (e y))):CF g a b=(true,zbr (a.map e) (b.map e)):=by
 rw [zbhR g (λx y=>zbb (e x) (e y)) a b ha hg,zNl e a b λ_ _ _ _=>rfl]
theorem Fc.eta2 (x:Fc):(FO.mk (At.mk x.At.Kind x.At.Row x.At.Ag x.At.Func x.At.Items x.At.Op x.At.Bd) x.Exp:Fc)=x:=by rw [At.eta]
theorem zbdp (g):zbO g=CF g:=rfl
theorem zbb3 (g):zbu g=CF g:=by
 have h:zbN g=zbbs g:=by
  funext x y
  unfold zbN zdZ zbbs z7j;rw [Fc.eta2,Fc.eta2]
 funext a b
 unfold zbu zd9 zd1;rw [h]; rfl
theorem zbfi (g):zbl g=CF g:=rfl
theorem zbdt (g):zbH g=CF g:=rfl
theorem zBm (a b:Value):zjO a b=(true,zbb (trV a) (trV b)):=by
 unfold zjO zML;have h:(strings_Compare a.Text b.Text).2=zbb (trB a.Text) (trB b.Text):=by rw [<- zba6]; rfl
 simp only [zyv,zv8,Wy.fin_bn,cond_true,h];rw [zw4 _ (by simp)]
 simp only [Wy.fin_k,cond_true,trV,zbb,zbr,zuH];rfl
theorem zOU:∀ n,
  (∀ d a b,zp d a->10*d<=n->zgc n a b=(true,zbr (zdl a) (zdl b)))/\
  (∀ d a b,zp d a->10*d<=n+1->zbQ n a b=(true,zbr (zdl a) (zdl b)))/\
  (∀ d x y,zgJ (zp d) x.Fs->10*d+10<=n+2->ziS n x y=(true,zbb (zyQ x) (zyQ y)))/\
  (∀ d x y,zgJ (zp d) x.Fs->10*d+10<=n+3->zhg n x y=(true,zbr (zby x.Fs) (zby y.Fs)))/\
  (∀ d l l',zgJ (zp d) l->10*d+10<=n+4->zbU n l l'=(true,zbr (zby l) (zby l')))/\
  (∀ d x y,zc7 (zp d) x.At->10*d+10<=n+5->zf2 n x y=(true,zbb (zrh x) (zrh y)))/\
  (∀ d x y,zc7 (zp d) x->10*d+10<=n+6->zha n x y=(true,zbb (zdO x) (zdO y)))/\
  (∀ d a b,a.length<=1000000->(∀ x∈a,zp d x)->10*d+10<=n+7->zbm n a b=(true,zbr (zwX a) (zwX b)))/\
  (∀ d a b,a.length<=1000000->(∀ x∈a,zp d x.Ann)->10*d+10<=n+7->zbG n a b=(true,zbr (zhp a) (zhp b)))/\
  (∀ d x y,zp d x.Ann->10*d+10<=n+8->ze7 n x y=(true,zbb (zbc x) (zbc y)))
 | 0=>by
  refine ⟨?_, ?_, ?_, ?_, ?_, ?_, ?_, ?_, ?_, ?_⟩
  ·intro d a b h hd; have:d=0:=by omega
   subst this; exact h.elim
  ·intro d a b h hd; have:d=0:=by omega
   subst this; exact h.elim
  all_goals (intros; omega)
 | n+1=>by
  obtain ⟨h1,h2,h3,h4,h5,h6,h7,h8,h9,h10⟩:=zOU n;refine ⟨?_, ?_, ?_, ?_, ?_, ?_, ?_, ?_, ?_, ?_⟩
  ·intro d a b h hd;rw [zME];unfold zpr zAU;rw [Wy.fin_bn,h2 d a b h (by omega)]; rfl
  ·intro d a b h hd;cases d with
   | zero=>exact h.elim
   | succ d=>
    rw [zid,zbdp,zGs,zGs];exact zPS zyQ _ a b h.1 λx hx y hy=>h3 d x y (h.2 x hx) (by omega)
  ·intro d x y h hd;rw [zIc];unfold zlQ zxW;rw [Wy.fin_bn,h4 d x y h (by omega)]
   simp only [cond_true,Wy.fin_bn,zv8];rw [zw4 _ (by simp)]
   obtain ⟨c,l⟩:=x; obtain ⟨c',l'⟩:=y;simp only [cond_true,Wy.fin_k,zuH,zyQ,zbb,zbr];rfl
  ·intro d x y h hd;rw [zFy];unfold zkj zvv;rw [Wy.fin_bn,h5 d _ _ h (by omega)]; rfl
  ·intro d l l' h hd;rw [ziN,zbb3,zwI,zwI];exact zPS zrh _ l l' h.1 λx hx y hy=>h6 d x y (h.2 x hx) (by omega)
  ·intro d x y h hd;rw [zDF];unfold zjb ztT;rw [At.eta,At.eta,Wy.fin_bn,h7 d _ _ h (by omega)]
   simp only [cond_true,Wy.fin_bn,zyv];rw [zw4 _ (by simp)]
   obtain ⟨c,l⟩:=x; obtain ⟨c',l'⟩:=y;simp only [cond_true,Wy.fin_k,zuH,zrh,zbb,zbr];rfl
  ·intro d x y h hd;rw [zFN];unfold zkl zvq;simp only [cond_true,Wy.fin_bn,zyv,zBm,h8 d x.Ag y.Ag h.1.1 h.2.1 (by omega),h9 d x.Items y.Items h.1.2.1 (λw hw=>(h.2.2 w hw).2) (by omega)]
   rw [zw4 _ (by simp)]
   obtain ⟨k,r,a,f,i,o,v⟩:=x; obtain ⟨k',r',a',f',i',o',v'⟩:=y;simp only [cond_true,Wy.fin_k,zuH,zdO,zbb,zbr];rfl
  ·intro d a b h0 h hd;rw [zfl,zbfi,zDq,zDq];exact zPS (λx=>TT.l (zdl x)) _ a b h0 λx hx y hy=>by rw [h1 d x y (h x hx) (by omega)]; simp only [zbb]
  ·intro d a b h0 h hd;rw [zgH,zbdt,zmF,zmF];exact zPS zbc _ a b h0 λx hx y hy=>h10 d x y (h x hx) (by omega)
  ·intro d x y h hd;rw [zFK];unfold zke zvk;simp only [cond_true,Wy.fin_bn,zBm,h1 d _ _ h (by omega)]
   rw [zw4 _ (by simp)]
   obtain ⟨c,l⟩:=x; obtain ⟨c',l'⟩:=y;simp only [cond_true,Wy.fin_k,zuH,zbc,zbb,zbr];rfl
theorem zQk {d:Nat} {a:yB} (h:zp d a) (hd:d<=100) (b:yB):zyA a b=(true,zbr (zdl a) (zdl b)):=(zOU 1000).1 d a b h (by omega)
theorem zwv {d:Nat} {x:Term} (h:zgJ (zp d) x.Fs) (hd:d<=99) (y:Term):zbW x y=(true,zbr (zby x.Fs) (zby y.Fs)):=(zOU 1000).2.2.2.1 d x y h (by omega)
theorem zwu {d:Nat} {x:At} (h:zc7 (zp d) x) (hd:d<=99) (y:At):ziU x y=(true,zbb (zdO x) (zdO y)):=(zOU 1000).2.2.2.2.2.2.1 d x y h (by omega)
theorem zjG {d:Nat} {x:Wd} (h:zp d x.Ann) (hd:d<=99) (y:Wd):z6 x y=(true,zbb (zbc x) (zbc y)):=(zOU 1000).2.2.2.2.2.2.2.2.2 d x y h (by omega)
theorem zEM {d:Nat} {a:yB} (h:zp d a) (hd:d<=100) (b:yB):zhU a b=(true,decide (a=b)):=by
 unfold zhU zGQ;rw [Wy.fin_bn,zQk h hd];simp only [cond_true,Wy.fin_k];congr 1;by_cases e:a=b
 ·subst e; rw [zVn]; simp
 ·have:zbr (zdl a) (zdl b)≠0:=λh=>e (zGh _ _ (zJG _ _ h))
  simp [e,this]
theorem zZs (s:ByteArray):∀ (n i:Nat) (r:List UInt8),s.size<=i+n->ByteArray.toList.loop s i r=r.reverse++s.data.toList.drop i
 | 0,i,r,h=>by
  rw [ByteArray.toList.loop,if_neg (by omega),List.drop_eq_nil_of_le (by rw [<- Lib.size_eq]; omega),List.append_nil]
 | n+1,i,r,h=>by
  rw [ByteArray.toList.loop];by_cases hi:i<s.size
  ·have hi':i<s.data.toList.length:=by rw [<- Lib.size_eq]; exact hi
   rw [if_pos hi,zZs s n (i+1) _ (by omega),List.drop_eq_getElem_cons hi',List.reverse_cons,List.append_assoc]
   congr 1
   have:s.get! i=s.data.toList[i]:=by
    have h':i<s.data.size:=hi;show s.data[i]! =s.data.toList[i];rw [getElem!_pos s.data i h']; rfl
   rw [this]; rfl
  ·rw [if_neg hi,List.drop_eq_nil_of_le (by rw [<- Lib.size_eq]; omega),List.append_nil]
theorem toList_eq (s:ByteArray):s.toList=s.data.toList:=by
 rw [ByteArray.toList,zZs s s.size 0 [] (by omega)]; rfl
theorem zGc {s t:ByteArray} (h:s.data.toList=t.data.toList):s=t:=by
 cases s; cases t;congr 1;exact Array.toList_inj.1 h
theorem zbbF (s t:ByteArray):(s.toList==t.toList)=decide (s.data.toList=t.data.toList):=by
 rw [toList_eq,toList_eq];cases hb:(s.data.toList==t.data.toList) with
 | true=>rw [decide_eq_true (beq_iff_eq.1 hb)]
 | false=>rw [decide_eq_false (λh=>by rw [beq_iff_eq.2 h] at hb; cases hb)]
theorem zCv (s t:ByteArray):(s.toList==t.toList)=decide (s=t):=by
 rw [zbbF];by_cases h:s=t
 ·rw [decide_eq_true h,decide_eq_true (by rw [h])]
 ·rw [decide_eq_false h,decide_eq_false λe=>h (zGc e)]
theorem zpE (z w:Int):(z != w)= !decide (z=w):=by by_cases h:z=w <;>simp [h]
theorem zTq:∀ a b:List UInt8,Op.bytesLess a b=decide (Lib.compareBytes a b<0)
 | [],[]=>by simp [Op.bytesLess,Lib.compareBytes]
 | _::_,[]=>by simp [Op.bytesLess,Lib.compareBytes]
 | [],_::_=>by simp [Op.bytesLess,Lib.compareBytes]
 | x::a,y::b=>by
  simp only [Op.bytesLess,Lib.compareBytes];by_cases p:x<y
  ·simp [p]
  ·by_cases q:y<x
   ·have hne:¬ x=y:=λe=>by subst e; exact p q
    simp [p,q,hne]
   ·have he:x=y:=UInt8.toNat_inj.1 (by rw [UInt8.lt_iff_toNat_lt] at p q; omega)
    subst he;simp [p,zTq a b]
theorem zBp (a b:Value):zjL a b=(true,zbb (trV a) (trV b)):=by
 unfold zjL zNg zs9 zWh;rw [zCv,toList_eq,toList_eq,zTq,zba6];simp only [trV,zbb,zbr,zd8];simp only [Wy.fin_i,Wy.fin_bn,Wy.fin_k,cond_true,zpE];by_cases h1:a.Kind=b.Kind
 ·by_cases h2:a.Int=b.Int
  ·by_cases h3:a.Text=b.Text
   ·simp [h1,h2,h3,zCl]
   ·have h4:zbb (trB a.Text) (trB b.Text)≠0:=λe=>by
     have:=zHZ _ _ (TT.l.inj (zss _ _ e));exact h3 (zGc this)
    have h5:=z9o (trB a.Text) (trB b.Text);simp only [trB,zbb] at h4 h5;simp only [trB,zbb];rcases h5 with h5 | h5 | h5
    ·simp [h1,h2,h3,h5]
    ·exact absurd h5 h4
    ·simp [h1,h2,h3,h5]
  ·by_cases h3:a.Int<b.Int
   ·simp [h1,h2,h3]
   ·simp [h1,h2,h3,show b.Int<a.Int by omega]
 ·by_cases h3:a.Kind<b.Kind
  ·simp [h1,h3]
  ·simp [h1,h3,show b.Kind<a.Kind by omega]
theorem znH (x y:Int):zcM x y=(true,zd8 x y):=by
 unfold zcM zPl zd8;by_cases h1:x<y
 ·simp [h1,Wy.fin_i,Wy.fin_k]
 ·by_cases h2:y<x <;>simp [h1,h2,Wy.fin_i,Wy.fin_k]
theorem zTI (x y:RowID):zqG x y=(true,if zd8 x.Table y.Table=0 then zd8 x.Seq y.Seq else zd8 x.Table y.Table):=by
 unfold zqG zF4;simp only [znH,Wy.fin_i,Wy.fin_bn,Wy.fin_k,cond_true,zpE];by_cases h:zd8 x.Table y.Table=0
 ·simp [h]
 ·simp [h]
section
variable {α:Type} [Inhabited α]
def z7g (p q:α->α->Bool×Int) (a:List α) (b:List α) (i:Int):Wy (List α×List α×Int×Unit) Unit (Int⊕(List α×List α)):=.i (decide (i<Int.ofNat a.length)) (.i (decide (i<Int.ofNat b.length)) (.i (decide ((0:Int)<=i)&&decide (i<Int.ofNat a.length)) (.i (decide ((0:Int)<=i)&&decide (i<Int.ofNat b.length)) (.bn (p (a.getD i.toNat default) (b.getD i.toNat default)) λr1=>.i (r1 != (0:Int)) (.k (.inl (r1))) (.i (decide ((0:Int)<=i)&&decide (i<Int.ofNat a.length)) (.i (decide ((0:Int)<=i)&&decide (i<Int.ofNat b.length)) (.bn (q (a.getD i.toNat default) (b.getD i.toNat default)) λr0=>.i (r0 != (0:Int)) (.k (.inl (r0))) (.h (a,b,(IntKind.i64.wrap (i+(1:Int))),()) ())) .d) .d)) .d) .d) (.k (.inr (a,b)))) (.k (.inr (a,b)))
def zbbD (p q:α->α->Bool×Int) (x:List α×List α×Int×Unit) (y:Unit):Wy (List α×List α×Int×Unit) Unit (Int⊕(List α×List α)):=z7g p q x.1 x.2.1 x.2.2.1
def zbbV (p q:α->α->Bool×Int) (n:Nat) (a:List α) (b:List α) (i:Int):Bool×(Int⊕(List α×List α)):=zB (zbbD p q) (.inl default) n (a,b,i,()) ()
def RG (p q:α->α->Bool×Int) (a b:List α):Bool×Int:=(.bn (zbbV p q (a.length+b.length+Int.toNat (0:Int)+(1:Nat)) a b (0:Int)) λr5=>.i (isL r5) (.k (getL r5)) (.bn (zcM (Int.ofNat (getR r5).fst.length) (Int.ofNat (getR r5).snd.length)) λr4=>.k r4):Wy0 Int).fin default
theorem zbay (p q:α->α->Bool×Int) (c1 c2:α->α->Int) (a b:List α) (ha:a.length<=1000000) (hp:∀ x∈a,∀ y∈b,p x y=(true,c1 x y)) (hq:∀ x∈a,∀ y∈b,q x y=(true,c2 x y)):∀ (n i:Nat),a.length<i+n->i<=a.length->i<=b.length->
  ∃ r,zbbV p q n a b i=(true,r)/\((r=.inl (zxm (λx y=>if c1 x y=0 then c2 x y else c1 x y) (a.drop i) (b.drop i)))\/(r=.inr (a,b)/\zxm (λx y=>if c1 x y=0 then c2 x y else c1 x y) (a.drop i) (b.drop i)=zd8 a.length b.length))
 | 0,i,h,h2,h3=>by omega
 | n+1,i,h,h2,h3=>by
  show ∃ r,(z7g p q a b i).ev (λx y=>zbbV p q n x.1 x.2.1 x.2.2.1) (λr=>(true,r)) (false,.inl default)=(true,r)/\_
  unfold z7g;by_cases hi:i<a.length
  ·by_cases hi':i<b.length
   ·simp only [Wy.ev_i,Wy.ev_k,Wy.ev_h,Wy.ev_bn,Wy.ev_d,tT,hi,hi',hp _ (zn hi) _ (zn hi'),hq _ (zn hi) _ (zn hi')];rw [zbg hi,zbg hi',zw (by omega)]
    simp only [zxm];generalize c1 (a.getD i default) (b.getD i default)=z1;generalize c2 (a.getD i default) (b.getD i default)=z2;by_cases hx:z1=0
    ·have e:(z1 != 0)=false:=by simp [hx]
     by_cases hx2:z2=0
     ·have e2:(z2 != 0)=false:=by simp [hx2]
      simp only [e,e2,cond_false,hx,hx2,if_true];exact zbay p q c1 c2 a b ha hp hq n (i+1) (by omega) (by omega) (by omega)
     ·have e2:(z2 != 0)=true:=by simp [hx2]
      simp only [e,e2,cond_false,cond_true,hx,hx2,if_true,if_false];exact ⟨_,rfl,.inl rfl⟩
    ·have e:(z1 != 0)=true:=by simp [hx]
     simp only [e,cond_true,hx,if_false];exact ⟨_,rfl,.inl rfl⟩
   ·simp only [Wy.ev_i,Wy.ev_k,Wy.ev_h,Wy.ev_bn,Wy.ev_d,tT,hi,hi'];refine ⟨_,rfl,.inr ⟨rfl, ?_⟩⟩;rw [zbg hi,zco hi'];unfold zd8; rw [if_neg (by omega),if_pos (by omega)]; rfl
  ·simp only [Wy.ev_i,Wy.ev_k,Wy.ev_h,Wy.ev_bn,Wy.ev_d,tT,hi];refine ⟨_,rfl,.inr ⟨rfl, ?_⟩⟩;rw [zco hi];by_cases hi':i<b.length
   ·rw [zbg hi']; unfold zd8; rw [if_pos (by omega)]; rfl
   ·rw [zco hi']; unfold zd8; rw [if_neg (by omega),if_neg (by omega)]; rfl
theorem zbh4 (p q:α->α->Bool×Int) (c1 c2:α->α->Int) (a b:List α) (ha:a.length<=1000000) (hp:∀ x∈a,∀ y∈b,p x y=(true,c1 x y)) (hq:∀ x∈a,∀ y∈b,q x y=(true,c2 x y)):RG p q a b=(true,zxm (λx y=>if c1 x y=0 then c2 x y else c1 x y) a b):=by
 unfold RG;obtain ⟨r,h1,h2⟩:=zbay p q c1 c2 a b ha hp hq (a.length+b.length+Int.toNat 0+1) 0 (by simp; omega) (by omega) (by omega)
 rw [show ((0:Nat):Int)=(0:Int) from rfl] at h1
 rw [Wy.fin_bn,h1];simp only [List.drop_zero] at h2;rcases h2 with rfl | ⟨rfl,h2⟩
 ·rfl
 ·rw [h2];simp only [Wy.fin_i,Wy.fin_k,Wy.fin_bn,znH,tT,isL,getR]
end
theorem z4m {α:Type} [Inhabited α] (e:α->TT) (p q:α->α->Bool×Int) (c1 c2:α->α->Int) (a b:List α) (ha:a.length<=1000000) (hp:∀ x∈a,∀ y∈b,p x y=(true,c1 x y)) (hq:∀ x∈a,∀ y∈b,q x y=(true,c2 x y))
  (hc:∀ x y,(if c1 x y=0 then c2 x y else c1 x y)=zbb (e x) (e y)):RG p q a b=(true,zbr (a.map e) (b.map e)):=by
 rw [zbh4 p q c1 c2 a b ha hp hq,zNl e a b λx _ y _=>hc x y]
theorem zbdX (g):zxX g=RG (λx y=>g x.Fs y.Fs) (λx y=>zcM x.Cf y.Cf):=rfl
theorem zbbx (g):zjA g=RG (λx y=>g x.At y.At) (λx y=>zcM x.Exp y.Exp):=by
 have h:zko g=zbbD (λx y=>g x.At y.At) (λx y=>zcM x.Exp y.Exp):=by
  funext x y
  unfold zko zx6 zbbD z7g;rw [At.eta,At.eta]
 funext a b
 unfold zjA zyU zxQ;rw [h]; rfl
theorem zben (g):zpy g=RG (λx y=>zjL x.Value y.Value) (λx y=>g x.Ann y.Ann):=rfl
theorem z5M (gI) (g:yB->yB->Bool×Int) (a b:At) (ha:a.Ag.length<=1000000) (hg:∀ x∈a.Ag,∀ y∈b.Ag,g x y=(true,zbr (zdl x) (zdl y))):∀ (n i:Nat),a.Ag.length<i+n->i<=a.Ag.length->i<=b.Ag.length->
  ∃ r,ztJ g gI n i a b=(true,r)/\((r=.inl (zxm (λx y=>zbr (zdl x) (zdl y)) (a.Ag.drop i) (b.Ag.drop i))/\zxm (λx y=>zbr (zdl x) (zdl y)) (a.Ag.drop i) (b.Ag.drop i)≠0)\/(r=.inr (a,b)/\zxm (λx y=>zbr (zdl x) (zdl y)) (a.Ag.drop i) (b.Ag.drop i)=zd8 a.Ag.length b.Ag.length))
 | 0,i,h,h2,h3=>by omega
 | n+1,i,h,h2,h3=>by
  show ∃ r,(zty g gI i a b).ev (λx y=>ztJ g gI n x.2.2.1 y.1 y.2.1) (λr=>(true,r)) (false,.inl default)=(true,r)/\_
  unfold zty;by_cases hi:i<a.Ag.length
  ·by_cases hi':i<b.Ag.length
   ·simp only [Wy.ev_i,Wy.ev_k,Wy.ev_h,Wy.ev_bn,Wy.ev_d,tT,hi,hi',hg _ (zn hi) _ (zn hi')];rw [zbg hi,zbg hi',zw (by omega)]
    simp only [zxm];generalize zbr (zdl (a.Ag.getD i default)) (zdl (b.Ag.getD i default))=z1;by_cases hx:z1=0
    ·have e:(z1 != 0)=false:=by simp [hx]
     simp only [e,cond_false,hx,if_true];exact z5M gI g a b ha hg n (i+1) (by omega) (by omega) (by omega)
    ·have e:(z1 != 0)=true:=by simp [hx]
     simp only [e,cond_true,hx,if_false];exact ⟨_,rfl,.inl ⟨rfl,hx⟩⟩
   ·simp only [Wy.ev_i,Wy.ev_k,Wy.ev_h,Wy.ev_bn,Wy.ev_d,tT,hi,hi'];refine ⟨_,rfl,.inr ⟨rfl, ?_⟩⟩;rw [zbg hi,zco hi'];unfold zd8; rw [if_neg (by omega),if_pos (by omega)]; rfl
  ·simp only [Wy.ev_i,Wy.ev_k,Wy.ev_h,Wy.ev_bn,Wy.ev_d,tT,hi];refine ⟨_,rfl,.inr ⟨rfl, ?_⟩⟩;rw [zco hi];by_cases hi':i<b.Ag.length
   ·rw [zbg hi']; unfold zd8; rw [if_pos (by omega)]; rfl
   ·rw [zco hi']; unfold zd8; rw [if_neg (by omega),if_neg (by omega)]; rfl
theorem zbeU (gI) (g:yB->yB->Bool×Int) (x y:At) (ha:x.Ag.length<=1000000) (hg:∀ a∈x.Ag,∀ b∈y.Ag,g a b=(true,zbr (zdl a) (zdl b)))
  (hI:gI x.Items y.Items=(true,zbr (zhp x.Items) (zhp y.Items))):zlY g gI x y=(true,zbb (zdO x) (zdO y)):=by
 unfold zlY zCd;rw [At.eta,At.eta];obtain ⟨r,h1,h2⟩:=z5M gI g x y ha hg (Int.toNat 0+x.Ag.length+x.Items.length+y.Ag.length+y.Items.length+1) 0 (by omega) (by omega) (by omega)
 rw [show ((0:Nat):Int)=(0:Int) from rfl] at h1
 simp only [List.drop_zero] at h2;rw [zNl (λa=>TT.l (zdl a)) x.Ag y.Ag (λa _ b _=>by simp only [zbb]), <- zDq, <- zDq] at h2
 simp only [znH,zTI,Wy.fin_bn,Wy.fin_i,Wy.fin_k,cond_true,h1];obtain ⟨k,r0,a,f,i,o,v⟩:=x; obtain ⟨k',r',a',f',i',o',v'⟩:=y;simp only [zdO,zbb,zbr,zpE] at *;by_cases e1:zd8 k k'=0
 rotate_left
 ·simp [e1]
 by_cases e2:zd8 r0.Table r'.Table=0
 rotate_left
 ·simp [e1,e2]
 by_cases e3:zd8 r0.Seq r'.Seq=0
 rotate_left
 ·simp [e1,e2,e3]
 rcases h2 with ⟨rfl,h2⟩ | ⟨rfl,h2⟩
 ·simp [e1,e2,e3,h2,isL,getL]
 simp only [e1,e2,e3,h2,isL,getR,tT,hI,if_true];by_cases e4:zd8 (a.length:Int) (a'.length:Int)=0
 rotate_left
 ·simp [e4]
 by_cases e5:zd8 f f'=0
 rotate_left
 ·simp [e4,e5]
 by_cases e6:zbr (zhp i) (zhp i')=0
 rotate_left
 ·simp [e4,e5,e6]
 by_cases e7:zd8 o o'=0
 rotate_left
 ·simp [e4,e5,e6,e7]
 simp [e4,e5,e6,e7,zBp]
theorem zLp:∀ n,
  (∀ d a b,zp d a->10*d<=n->zn0 n a b=(true,zbr (zdl a) (zdl b)))/\
  (∀ d l l',zgJ (zp d) l->10*d+10<=n+1->zjE n l l'=(true,zbr (zby l) (zby l')))/\
  (∀ d x y,zc7 (zp d) x->10*d+10<=n+2->zlZ n x y=(true,zbb (zdO x) (zdO y)))/\
  (∀ d a b,a.length<=1000000->(∀ x∈a,zp d x.Ann)->10*d+10<=n+3->zk9 n a b=(true,zbr (zhp a) (zhp b)))
 | 0=>by
  refine ⟨?_, ?_, ?_, ?_⟩
  ·intro d a b h hd; have:d=0:=by omega
   subst this; exact h.elim
  all_goals (intros; omega)
 | n+1=>by
  obtain ⟨h1,h2,h3,h4⟩:=zLp n;refine ⟨?_, ?_, ?_, ?_⟩
  ·intro d a b h hd;cases d with
   | zero=>exact h.elim
   | succ d=>
    rw [zVB,zbdX,zGs,zGs]
    exact z4m zyQ _ _ (λx y=>zbr (zby x.Fs) (zby y.Fs)) (λx y=>zd8 x.Cf y.Cf) a b h.1 (λx hx y hy=>h2 d _ _ (h.2 x hx) (by omega)) (λx _ y _=>znH _ _) λx y=>by
     obtain ⟨c,l⟩:=x; obtain ⟨c',l'⟩:=y;simp only [zyQ,zbb,zbr];by_cases e:zd8 c c'=0 <;>simp [e]
  ·intro d l l' h hd;rw [zIT,zbbx,zwI,zwI]
   exact z4m zrh _ _ (λx y=>zbb (zdO x.At) (zdO y.At)) (λx y=>zd8 x.Exp y.Exp) l l' h.1 (λx hx y hy=>h3 d _ _ (h.2 x hx) (by omega)) (λx _ y _=>znH _ _) λx y=>by
    obtain ⟨c,l⟩:=x; obtain ⟨c',l'⟩:=y;simp only [zrh,zbb,zbr];by_cases e:zd8 l l'=0 <;>simp [e]
  ·intro d x y h hd;rw [zNN];exact zbeU _ _ x y h.1.1 (λa ha b _=>h1 d a b (h.2.1 a ha) (by omega)) (h4 d _ _ h.1.2.1 (λw hw=>(h.2.2 w hw).2) (by omega))
  ·intro d a b h0 h hd;rw [zLU,zben,zmF,zmF]
   exact z4m zbc _ _ (λx y=>zbb (trV x.Value) (trV y.Value)) (λx y=>zbr (zdl x.Ann) (zdl y.Ann)) a b h0 (λx _ y _=>zBp _ _) (λx hx y _=>h1 d _ _ (h x hx) (by omega)) λx y=>by
    obtain ⟨c,l⟩:=x; obtain ⟨c',l'⟩:=y;simp only [zbc,zbb,zbr];by_cases e:zbr (zdl l) (zdl l')=0 <;>simp [e]
theorem z0W {d:Nat} {a:yB} (h:zp d a) (hd:d<=100) (b:yB):zHO a b=(true,zbr (zdl a) (zdl b)):=(zLp 1000).1 d a b h (by omega)
theorem zrQ {d:Nat} {l:yC} (h:zgJ (zp d) l) (hd:d<=99) (l':yC):zkO l l'=(true,zbr (zby l) (zby l')):=(zLp 1000).2.1 d l l' h (by omega)
theorem zvD {d:Nat} {x:At} (h:zc7 (zp d) x) (hd:d<=99) (y:At):zlw x y=(true,zbb (zdO x) (zdO y)):=(zLp 1000).2.2.1 d x y h (by omega)
theorem zCx {d:Nat} {a:yD} (h0:a.length<=1000000) (h:∀ x∈a,zp d x.Ann) (hd:d<=99) (b:yD):zs5 a b=(true,zbr (zhp a) (zhp b)):=(zLp 1000).2.2.2 d a b h0 h (by omega)
theorem zIl {d:Nat} {a:yB} (h:zp d a) (hd:d<=100) (b:yB):zpB a b=(true,decide (a=b)):=by
 unfold zpB zV0;rw [Wy.fin_bn,z0W h hd];simp only [cond_true,Wy.fin_k];congr 1;by_cases e:a=b
 ·subst e; rw [zVn]; simp
 ·have:zbr (zdl a) (zdl b)≠0:=λh=>e (zGh _ _ (zJG _ _ h))
  simp [e,this]
def zdK (c:Nat->Bool):Nat->Nat->Bool
 | 0,_=>true
 | n+1,i=>c i&&zdK c n (i+1)
theorem z2X {c c':Nat->Bool}:∀ n i,(∀ k,i<=k->k<i+n->c k=c' k)->zdK c n i=zdK c' n i
 | 0,_,_=>rfl
 | n+1,i,h=>by
  simp only [zdK]; rw [h i (by omega) (by omega),z2X n (i+1) λk h1 h2=>h k (by omega) (by omega)]
theorem zdY {c:Nat->Bool}:∀ {n i},zdK c n i=true↔∀ k,i<=k->k<i+n->c k=true
 | 0,i=>⟨λ_ k h1 h2=>by omega,λ_=>rfl⟩
 | n+1,i=>by
  simp only [zdK,qc,zdY (n:=n)];constructor
  ·rintro ⟨h1,h2⟩ k h3 h4
   by_cases e:k=i
   ·rw [e]; exact h1
   ·exact h2 k (by omega) (by omega)
  ·intro h;exact ⟨h i (by omega) (by omega),λk h1 h2=>h k (by omega) (by omega)⟩
theorem z7O (c c':Nat->Bool):∀ n i,zdK (λk=>c k&&c' k) n i=(zdK c n i&&zdK c' n i)
 | 0,_=>rfl
 | n+1,i=>by
  simp only [zdK,z7O c c' n (i+1)];cases c i <;>cases c' i <;>simp
theorem z8W {τ:Type} [Inhabited τ] (p:τ->Bool) (l:List τ):∀ n i,i+n=l.length->zdK (λk=>p (l.getD k default)) n i=(l.drop i).all p
 | 0,i,h=>by rw [zco (by omega)]; rfl
 | n+1,i,h=>by
  rw [zbg (by omega),List.all_cons]
  simp only [zdK,z8W p l n (i+1) (by omega)]
theorem zy8 {τ:Type} [Inhabited τ] (p:τ->Bool) (l:List τ):zdK (λk=>p (l.getD k default)) l.length 0=l.all p:=by
 rw [z8W p l _ _ (by omega),List.drop_zero]
section
variable {α β ρ:Type}
theorem z8Z {W:α->β->Wy α β ρ} {z:ρ} (N:Nat) (ex:Nat->α) (ey:Nat->β) (c:Nat->Bool) (no yes:ρ)
  (h:∀ i,i<N->∀ (H:α->β->Bool×ρ) K D,(W (ex i) (ey i)).ev H K D=bif c i then H (ex (i+1)) (ey (i+1)) else K no)
  (he:∀ (H:α->β->Bool×ρ) K D,(W (ex N) (ey N)).ev H K D=K yes):
  ∀ n i,N<i+n->i<=N->zB W z n (ex i) (ey i)=(true,bif zdK c (N - i) i then yes else no)
 | 0,i,h1,h2=>by omega
 | n+1,i,h1,h2=>by
  show (W (ex i) (ey i)).ev (zB W z n) (λr=>(true,r)) (false,z)=_
  by_cases hi:i<N
  ·rw [h i hi,show N - i=(N - (i+1))+1 by omega]
   simp only [zdK];cases c i with
   | false=>rfl
   | true=>rw [cond_true,z8Z N ex ey c no yes h he n (i+1) (by omega) (by omega)]; rfl
  ·have:i=N:=by omega
   subst this;rw [he,Nat.sub_self]; rfl
theorem zcs {W:α->β->Wy α β ρ} {z:ρ} (N:Nat) (ex:Nat->α) (ey:Nat->β) (c:Nat->Bool) (no yes:ρ)
  (h:∀ i,i<N->∀ (H:α->β->Bool×ρ) K D,(W (ex i) (ey i)).ev H K D=bif c i then H (ex (i+1)) (ey (i+1)) else K no)
  (he:∀ (H:α->β->Bool×ρ) K D,(W (ex N) (ey N)).ev H K D=K yes) (n:Nat) (hn:N<n):zB W z n (ex 0) (ey 0)=(true,bif zdK c N 0 then yes else no):=by
 have:=z8Z (z:=z) N ex ey c no yes h he n 0 (by omega) (by omega)
 simpa using this
end
def ixf {α:Type} (p:α->Bool):List α->Nat->Int
 | [],_=> -1
 | x::r,i=>bif p x then (i:Int) else ixf p r (i+1)
theorem zbaZ {α:Type} (p:α->Bool):∀ (l:List α) (i:Nat),decide (ixf p l i≥(0:Int))=l.any p
 | [],i=>by simp [ixf]
 | x::r,i=>by
  rw [List.any_cons];cases h:p x with
  | true=>simp [ixf,h]
  | false=>simpa [ixf,h] using zbaZ p r (i+1)
section
variable {α γ:Type} [Inhabited α]
def z7h (p:γ->α->Bool×Bool) (s:List α) (g:γ) (t7:Int) (t8:Int):Wy (List α×γ×Int×Int×Unit) Unit (Int⊕Unit):=.i (decide (t8<t7)) (.i (decide ((0:Int)<=t8)&&decide (t8<Int.ofNat s.length)) (.bn (p g (s.getD t8.toNat default)) λr0=>.i (r0) (.k (.inl t8)) (.h (s,g,t7,(IntKind.i64.wrap (t8+(1:Int))),()) ())) .d) (.k (.inr ()))
def zbb9 (p:γ->α->Bool×Bool) (x:List α×γ×Int×Int×Unit) (y:Unit):Wy (List α×γ×Int×Int×Unit) Unit (Int⊕Unit):=z7h p x.1 x.2.1 x.2.2.1 x.2.2.2.1
def zbbP (p:γ->α->Bool×Bool) (n:Nat) (s:List α) (g:γ) (t7:Int) (t8:Int):Bool×(Int⊕Unit):=zB (zbb9 p) (.inl default) n (s,g,t7,t8,()) ()
def IG (p:γ->α->Bool×Bool) (n:Nat) (g:γ) (s:List α):Bool×Int:=(.bn (zbbP p n s g (Int.ofNat s.length) (0:Int)) λr2=>.i (isL r2) (.k (getL r2)) (.k (-1:Int)):Wy0 Int).fin default
def zbb2 (p:γ->α->Bool×Bool) (s:List α) (g:γ) (t7:Int) (t8:Int):Wy (List α×γ×Int×Int×Unit) Unit (Int⊕Unit):=.i (decide (t8<t7)) (.i (decide ((0:Int)<=t8)&&decide (t8<Int.ofNat s.length)) (.i ((p g (s.getD t8.toNat default)).snd) (.k (.inl t8)) (.h (s,g,t7,(IntKind.i64.wrap (t8+(1:Int))),()) ())) .d) (.k (.inr ()))
def zbhV (p:γ->α->Bool×Bool) (x:List α×γ×Int×Int×Unit) (y:Unit):Wy (List α×γ×Int×Int×Unit) Unit (Int⊕Unit):=zbb2 p x.1 x.2.1 x.2.2.1 x.2.2.2.1
def zbbO (p:γ->α->Bool×Bool) (n:Nat) (s:List α) (g:γ) (t7:Int) (t8:Int):Bool×(Int⊕Unit):=zB (zbhV p) (.inl default) n (s,g,t7,t8,()) ()
def IH (p:γ->α->Bool×Bool) (n:Nat) (g:γ) (s:List α):Bool×Int:=(.bn (zbbO p n s g (Int.ofNat s.length) (0:Int)) λr2=>.i (isL r2) (.k (getL r2)) (.k (-1:Int)):Wy0 Int).fin default
theorem zbak (p:γ->α->Bool×Bool) (P:α->Bool) (g:γ) (s:List α) (hs:s.length<=1000000000) (hp:∀ x∈s,p g x=(true,P x)):∀ (n i:Nat),s.length<i+n->i<=s.length->
  ∃ r,zbbP p n s g s.length i=(true,r)/\((r=.inl (ixf P (s.drop i) i))\/(r=.inr ()/\ixf P (s.drop i) i= -1))
 | 0,i,h,h2=>by omega
 | n+1,i,h,h2=>by
  show ∃ r,(z7h p s g s.length i).ev (λx y=>zbbP p n x.1 x.2.1 x.2.2.1 x.2.2.2.1) (λr=>(true,r)) (false,.inl default)=(true,r)/\_
  unfold z7h;by_cases hi:i<s.length
  ·simp only [Wy.ev_i,Wy.ev_k,Wy.ev_h,Wy.ev_bn,Wy.ev_d,tT,hi,hp _ (zn hi)];rw [zbg hi,zw (by omega)]
   simp only [ixf];cases P (s.getD i default) with
   | true=>exact ⟨_,rfl,.inl rfl⟩
   | false=>exact zbak p P g s hs hp n (i+1) (by omega) (by omega)
  ·simp only [Wy.ev_i,Wy.ev_k,Wy.ev_h,Wy.ev_bn,Wy.ev_d,tT,hi,zco hi];exact ⟨_,rfl,.inr ⟨rfl,rfl⟩⟩
theorem zJB (p:γ->α->Bool×Bool) (P:α->Bool) (n:Nat) (g:γ) (s:List α) (hs:s.length<=1000000000) (hp:∀ x∈s,p g x=(true,P x)) (hn:s.length<n):IG p n g s=(true,ixf P s 0):=by
 unfold IG;obtain ⟨r,h1,h2⟩:=zbak p P g s hs hp n 0 (by omega) (by omega)
 rw [show ((0:Nat):Int)=(0:Int) from rfl] at h1
 rw [Wy.fin_bn,show Int.ofNat s.length=(s.length:Int) from rfl,h1]
 rw [List.drop_zero] at h2;rcases h2 with rfl | ⟨rfl,h2⟩
 ·rfl
 ·rw [h2]; rfl
theorem zbaA (p:γ->α->Bool×Bool) (P:α->Bool) (g:γ) (s:List α) (hs:s.length<=1000000000) (hp:∀ x∈s,p g x=(true,P x)):∀ (n i:Nat),s.length<i+n->i<=s.length->
  ∃ r,zbbO p n s g s.length i=(true,r)/\((r=.inl (ixf P (s.drop i) i))\/(r=.inr ()/\ixf P (s.drop i) i= -1))
 | 0,i,h,h2=>by omega
 | n+1,i,h,h2=>by
  show ∃ r,(zbb2 p s g s.length i).ev (λx y=>zbbO p n x.1 x.2.1 x.2.2.1 x.2.2.2.1) (λr=>(true,r)) (false,.inl default)=(true,r)/\_
  unfold zbb2;by_cases hi:i<s.length
  ·simp only [Wy.ev_i,Wy.ev_k,Wy.ev_h,Wy.ev_bn,Wy.ev_d,tT,hi,hp _ (zn hi)];rw [zbg hi,zw (by omega)]
   simp only [ixf];cases P (s.getD i default) with
   | true=>exact ⟨_,rfl,.inl rfl⟩
   | false=>exact zbaA p P g s hs hp n (i+1) (by omega) (by omega)
  ·simp only [Wy.ev_i,Wy.ev_k,Wy.ev_h,Wy.ev_bn,Wy.ev_d,tT,hi,zco hi];exact ⟨_,rfl,.inr ⟨rfl,rfl⟩⟩
theorem zba9 (p:γ->α->Bool×Bool) (P:α->Bool) (n:Nat) (g:γ) (s:List α) (hs:s.length<=1000000000) (hp:∀ x∈s,p g x=(true,P x)) (hn:s.length<n):IH p n g s=(true,ixf P s 0):=by
 unfold IH;obtain ⟨r,h1,h2⟩:=zbaA p P g s hs hp n 0 (by omega) (by omega)
 rw [show ((0:Nat):Int)=(0:Int) from rfl] at h1
 rw [Wy.fin_bn,show Int.ofNat s.length=(s.length:Int) from rfl,h1]
 rw [List.drop_zero] at h2;rcases h2 with rfl | ⟨rfl,h2⟩
 ·rfl
 ·rw [h2]; rfl
theorem zkD {α:Type} {s:List α} {P:α->Bool} {q:Bool×Int} (h:q=(true,ixf P s 0)):((.bn q λr0=>.k (decide (r0≥(0:Int))):Wy0 Bool).fin default)=(true,s.any P):=by
 rw [h,Wy.fin_bn,cond_true,Wy.fin_k,zbaZ]
end
theorem zf8 (a b:Int):(a==b)=decide (a=b):=by by_cases h:a=b <;>simp [h]
theorem z0D (a b:Nat):(a==b)=decide (a=b):=by by_cases h:a=b <;>simp [h]
theorem i0 (l:Nat):((l:Int)==0)=(l==0):=by
 rw [zf8,z0D]; congr 1; simp
def zxo (a:yB):Bool:=a.any λt=>t.Fs.length==0
theorem zQh (a:yB) (h:a.length<=1000000000):zeY a=(true,zxo a):=by
 unfold zeY zyG zde zhS;have:zdH a=IH (λ(_:Unit) x=>zhi x) (a.length+(Int.ofNat a.length).toNat +Int.toNat (0:Int)+(1:Nat)) () a:=rfl
 rw [zkD (P:=λt:Term=>t.Fs.length==0) (this.trans (zba9 _ _ _ _ _ h (λx _=>by
  unfold zhi zvh;rw [Wy.fin_k];congr 1;exact i0 x.Fs.length) (by omega)))]
 rfl
theorem zAf (a:yB) (h:a.length<=1000000000):ziB a=(true,zxo a):=by
 unfold ziB zKm zIr
 have:=zcs (W:=zAp) (z:=.inl default) a.length (λi=>(a,(i:Int),())) (λ_=>()) (λi=> !((a.getD i default).Fs.length==0)) (.inl true) (.inr ())
  (λi hi H K D=>by
   show (zoW a i).ev H K D=_;unfold zoW;simp only [Wy.ev_i,Wy.ev_k,Wy.ev_h,Wy.ev_bn,Wy.ev_d,tT,hi,i0];rw [zw (by omega)]
   cases (a.getD i default).Fs.length==0 <;>rfl)
  (λH K D=>by
   show (zoW a a.length).ev H K D=_;unfold zoW;simp only [Wy.ev_i,Wy.ev_k,tT,Nat.lt_irrefl]) (a.length+Int.toNat (0:Int)+(1:Nat)) (by omega)
 rw [show ((0:Nat):Int)=(0:Int) from rfl] at this
 rw [Wy.fin_bn,this,zy8 (λt:Term=> !(t.Fs.length==0)) a]
 have e:(a.all λt:Term=> !(t.Fs.length==0))= !zxo a:=by simp [zxo,List.all_eq_not_any_not]
 rw [e];cases zxo a <;>rfl
def isC:yB->Bool
 | [t]=>t.Fs.length==0
 | _=>false
theorem zST (a:yB):zhy a=(true,isC a):=by
 unfold zhy zzM
 match a with
 | []=>rfl
 | [t]=>exact congrArg (Prod.mk true) (i0 t.Fs.length)
 | t::u::r=>
  have:((Int.ofNat (t::u::r).length)==(1:Int))=false:=by simp; omega
  rw [Wy.fin_i,this]; rfl
def zbg8 (p:Fc->Bool):yC->Bool
 | [f]=>p f
 | _=>false
def isU:yB->Bool
 | [t]=>t.Cf==1&&zbg8 (λf=>f.Exp==1&&(f.At.Kind==2||f.At.Kind==3||f.At.Kind==4)) t.Fs
 | _=>false
theorem z4e (x:At):zfH x=(true,x.Kind==3||x.Kind==4):=by
 unfold zfH zzS;rw [Wy.fin_i,Wy.fin_k,Wy.fin_k];cases x.Kind==3 <;>rfl
theorem zOA {τ:Type} (x y:τ) (r:List τ):((Int.ofNat (x::y::r).length)==(1:Int))=false:=by
 rw [beq_eq_false_iff_ne]; simp; omega
theorem z5t (a:yB):zlu a=(true,isU a):=by
 unfold zlu zEW
 match a with
 | []=>rfl
 | ⟨c,[]⟩::[]=>
  show (bif c != 1 then (true,false) else (true,false))=(true,c==1&&false)
  cases c != 1 <;>simp
 | ⟨c,[f]⟩::[]=>
  simp only [Wy.fin_i,Wy.fin_k,tT,isU,List.length_singleton,z4e,Wy.fin_bn,Wy.fin_d];show (bif c != 1 then (true,false) else bif f.Exp==1 then bif f.At.Kind==2 then (true,true) else (true,f.At.Kind==3||f.At.Kind==4) else (true,false))=(true,c==1&&(f.Exp==1&&(f.At.Kind==2||f.At.Kind==3||f.At.Kind==4)))
  rw [show (c != 1)= !(c==1) from rfl]
  cases c==1 <;>cases f.Exp==1 <;>cases f.At.Kind==2 <;>simp
 | ⟨c,f::g::r⟩::[]=>
  simp only [Wy.fin_i,bne,zOA];show (bif !(c==1) then (true,false) else (true,false))=(true,c==1&&false)
  cases c==1 <;>rfl
 | t::u::r=>rw [Wy.fin_i,bne,zOA]; rfl
def isB:yB->Bool
 | [t]=>t.Cf==1&&zbg8 (λf=>f.Exp==1&&decide (2<=f.At.Kind)) t.Fs
 | _=>false
theorem zMZ (a:yB):zqM a=(true,isB a):=by
 unfold zqM zPg
 match a with
 | []=>rfl
 | ⟨c,[]⟩::[]=>
  show (bif c==1 then (true,false) else (true,false))=(true,c==1&&false)
  cases c==1 <;>rfl
 | ⟨c,[f]⟩::[]=>
  simp only [Wy.fin_i,Wy.fin_k,tT,List.length_singleton,Wy.fin_bn,Wy.fin_d];show (bif c==1 then bif decide (2<=f.At.Kind) then (true,f.Exp==1) else (true,false) else (true,false))=(true,c==1&&(f.Exp==1&&decide (2<=f.At.Kind)))
  cases c==1 <;>cases f.Exp==1 <;>cases decide (2<=f.At.Kind) <;>simp
 | ⟨c,f::g::r⟩::[]=>
  rw [Wy.fin_i];show (bif true then (Wy.i true (Wy.i (c==1) (Wy.i true (Wy.i (Int.ofNat (f::g::r).length==1) _ (.k false)) .d) (.k false)) .d:Wy0 Bool).fin default else _)=(true,c==1&&false)
  simp only [Wy.fin_i,Wy.fin_k,zOA,cond_true,cond_false];cases c==1 <;>rfl
 | t::u::r=>rw [Wy.fin_i,zOA]; rfl
theorem zPx (a b:Nat):decide (a>b)= !decide (a<=b):=by
 by_cases h:a<=b
 ·have:¬ a>b:=by omega
  simp [h,this]
 ·have:a>b:=by omega
  simp [h,this]
def zBb (t:Term):Bool:= !(decide (t.Fs.length>64)||t.Fs.any λf=>decide (f.Exp>64)||decide (f.At.Items.length>1024))
def zfs (a:yB):Bool:=decide (a.length<=512)&&decide (zbo a<=8)&&decide (zN a<=4096)&&a.all zBb
theorem zbbd (l:yC) (h:l.length<=1000000):zcq l=(true,l.any λf=>decide (f.Exp>64)||decide (f.At.Items.length>1024)):=by
 unfold zcq zio
 have hw:zdp=zbb9 (λ(_:Unit) x=>zf4 x):=by
  funext x y
  unfold zdp zjg zbb9 z7h;rw [Fc.eta2]
 have:zcN l=IG (λ(_:Unit) x=>zf4 x) (l.length+(Int.ofNat l.length).toNat +Int.toNat (0:Int)+(1:Nat)) () l:=by
  unfold zcN zjn zi7;rw [hw]; rfl
 exact zkD (this.trans (zJB _ _ _ _ _ (by omega) (λx _=>by
  unfold zf4 zx4;rw [Wy.fin_i,Wy.fin_k,Wy.fin_k];have e:decide (Int.ofNat x.At.Items.length>(1024:Int))=decide (x.At.Items.length>1024):=zjp _ 1024;rw [e];cases decide (x.Exp>64) <;>rfl) (by omega)))
theorem z5U {d:Nat} {a:yB} (h:zp d a) (hd:d<=100) (hs:zN a<=4611686018427387904):zlt a=(true,zfs a):=by
 obtain ⟨h1,h2⟩:a.length<=1000000/\∀ t∈a,t.Fs.length<=1000000:=by
  cases d with
  | zero=>exact h.elim
  | succ d=>exact ⟨h.1,λt ht=>(h.2 t ht).1⟩
 have h3:zci a=(true,a.any λt=> !zBb t):=by
  unfold zci zh3;have:zdF a=IG (λ(_:Unit) x=>zkK x) (a.length+(Int.ofNat a.length).toNat +Int.toNat (0:Int)+(1:Nat)) () a:=rfl
  exact zkD (this.trans (zJB _ _ _ _ _ (by omega) (λx hx=>by
   unfold zkK zAK;rw [Wy.fin_i,Wy.fin_k,Wy.fin_bn,zbbd _ (h2 x hx)];have e:decide (Int.ofNat x.Fs.length>(64:Int))=decide (x.Fs.length>64):=zjp _ 64;rw [e];unfold zBb;cases decide (x.Fs.length>64) <;>simp [Wy.fin_k]) (by omega)))
 unfold zlt zEL;have n1:zyP a=(true,(zbo a:Int)):=(z4a 1000 d a h (by omega) hd).1
 have n2:zC0 a=(true,(zN a:Int)):=(z0m 1000 d a h (by omega) hs).1
 simp only [Wy.fin_i,Wy.fin_k,Wy.fin_bn,n1,n2,h3,cond_true];have e1:decide (Int.ofNat a.length>(512:Int))= !decide (a.length<=512):=by rw [show decide (Int.ofNat a.length>(512:Int))=decide (a.length>512) from zjp _ 512]; exact zPx _ _
 have e2:decide ((zbo a:Int)>(8:Int))= !decide (zbo a<=8):=by rw [show decide ((zbo a:Int)>(8:Int))=decide (zbo a>8) from zjp _ 8]; exact zPx _ _
 have e3:decide ((zN a:Int)>(4096:Int))= !decide (zN a<=4096):=by rw [show decide ((zN a:Int)>(4096:Int))=decide (zN a>4096) from zjp _ 4096]; exact zPx _ _
 have e4:(a.any λt=> !zBb t)= !a.all zBb:=by simp [List.all_eq_not_any_not]
 rw [e1,e2,e3,e4];unfold zfs;cases decide (a.length<=512) <;>cases decide (zbo a<=8) <;>cases decide (zN a<=4096) <;>simp
theorem zbhk (a:yB) (i:Nat) (hi:i<a.length) (hl:(a.getD i default).Fs.length<=1000000) (fuel:Nat) (hf:(a.getD i default).Fs.length<fuel):
  zTg fuel a i 0=(true,bif (a.getD i default).Fs.any λf=>decide (f.Exp>64)||decide (f.At.Items.length>1024) then .inl false else .inr (a,(i:Int))):=by
 have:=zcs (W:=zH0) (z:=.inl default) (a.getD i default).Fs.length (λk=>(a,(i:Int),(k:Int),())) (λ_=>()) (λk=>(λf:Fc=> !(decide (f.Exp>64)||decide (f.At.Items.length>1024))) ((a.getD i default).Fs.getD k default)) (.inl false) (.inr (a,(i:Int)))
  (λk hk H K D=>by
   show (zwQ a i k).ev H K D=_;unfold zwQ;simp only [Wy.ev_i,Wy.ev_k,Wy.ev_h,Wy.ev_bn,Wy.ev_d,tT,hi,hk];rw [zw (by omega),show decide ((((a.getD i default).Fs.getD k default).At.Items.length:Int)>(1024:Int))=_ from zjp _ 1024]
   cases decide (((a.getD i default).Fs.getD k default).Exp>64) <;>cases decide (1024<((a.getD i default).Fs.getD k default).At.Items.length) <;>rfl)
  (λH K D=>by
   show (zwQ a i (a.getD i default).Fs.length).ev H K D=_;unfold zwQ;simp only [Wy.ev_i,Wy.ev_k,Wy.ev_h,Wy.ev_bn,Wy.ev_d,tT,hi,Nat.lt_irrefl]) fuel hf
 rw [zy8 (λf:Fc=> !(decide (f.Exp>64)||decide (f.At.Items.length>1024)))] at this
 have e:((a.getD i default).Fs.all λf=> !(decide (f.Exp>64)||decide (f.At.Items.length>1024)))= !((a.getD i default).Fs.any λf=>decide (f.Exp>64)||decide (f.At.Items.length>1024)):=by simp [List.all_eq_not_any_not]
 rw [e] at this;refine this.trans ?_;cases (a.getD i default).Fs.any λf=>decide (f.Exp>64)||decide (f.At.Items.length>1024) <;>rfl
theorem zbao {d:Nat} {a:yB} (h:zp d a) (hd:d<=100) (hs:zN a<=4611686018427387904):zzB a=(true,zfs a):=by
 obtain ⟨h1,h2⟩:a.length<=1000000/\∀ t∈a,t.Fs.length<=1000000:=by
  cases d with
  | zero=>exact h.elim
  | succ d=>exact ⟨h.1,λt ht=>(h.2 t ht).1⟩
 have h3:zTi ((a.length+Int.toNat (0:Int)+(1:Nat))+zd5 a) a 0=(true,bif a.all zBb then .inr () else .inl false):=by
  have:=zcs (W:=zHD) (z:=.inl default) a.length (λk=>(a,(k:Int),())) (λ_=>()) (λk=>zBb (a.getD k default)) (.inl false) (.inr ())
   (λk hk H K D=>by
    show (zwP a k).ev H K D=_;unfold zwP;have h4:=h2 _ (zn hk);have h5:=zKo a k hk;simp only [Wy.ev_i,Wy.ev_k,Wy.ev_h,Wy.ev_bn,Wy.ev_d,tT,hk];rw [zbhk a k hk h4 _ (by omega)]
    have e:decide (((a.getD k default).Fs.length:Int)>(64:Int))=decide ((a.getD k default).Fs.length>64):=zjp _ 64;rw [e];unfold zBb;cases decide ((a.getD k default).Fs.length>64) <;>cases ((a.getD k default).Fs.any λf=>decide (f.Exp>64)||decide (f.At.Items.length>1024))
    ·simp only [cond_false,cond_true,isL,getR]; rw [zw (by omega)]; rfl
    all_goals rfl)
   (λH K D=>by
    show (zwP a a.length).ev H K D=_;unfold zwP;simp only [Wy.ev_i,Wy.ev_k,Wy.ev_h,Wy.ev_bn,Wy.ev_d,tT,Nat.lt_irrefl]) ((a.length+Int.toNat (0:Int)+(1:Nat))+zd5 a) (by omega)
  rw [zy8] at this;exact this
 unfold zzB zXa;have n1:zHP a=(true,(zbo a:Int)):=(z4a 1000 d a h (by omega) hd).2
 have n2:zRi a=(true,(zN a:Int)):=(z0m 1000 d a h (by omega) hs).2
 simp only [Wy.fin_i,Wy.fin_k,Wy.fin_bn,n1,n2,h3,cond_true];have e1:decide (Int.ofNat a.length>(512:Int))= !decide (a.length<=512):=by rw [show decide (Int.ofNat a.length>(512:Int))=decide (a.length>512) from zjp _ 512]; exact zPx _ _
 have e2:decide ((zbo a:Int)>(8:Int))= !decide (zbo a<=8):=by rw [show decide ((zbo a:Int)>(8:Int))=decide (zbo a>8) from zjp _ 8]; exact zPx _ _
 have e3:decide ((zN a:Int)>(4096:Int))= !decide (zN a<=4096):=by rw [show decide ((zN a:Int)>(4096:Int))=decide (zN a>4096) from zjp _ 4096]; exact zPx _ _
 rw [e1,e2,e3];unfold zfs;cases decide (a.length<=512) <;>cases decide (zbo a<=8) <;>cases decide (zN a<=4096) <;>cases a.all zBb <;>simp [isL,getL]
def zqI (v:Value):Bool:=(v.Kind==0&&v.Text.size==0)||(v.Kind==1&&v.Int==0&&decide (v.Text.size<=255))||(v.Kind==2&&v.Text.size==0&&(v.Int==0||v.Int==1))
theorem z88 (s:ByteArray):(s.toList==(ByteArray.mk #[]).toList)=(s.size==0):=by
 rw [zCv];by_cases h:s.size=0
 ·have:s=ByteArray.mk #[]:=zGc (by
   have:s.data.toList.length=0:=by simpa using h
   rw [List.length_eq_zero_iff.1 this])
  subst this; rfl
 ·have:¬ s=ByteArray.mk #[]:=λe=>h (by rw [e]; rfl)
  simp [h,this]
theorem zzx (v:Value):zpX v=(true,zqI v):=by
 unfold zpX zTd zqI;simp only [z88,Wy.fin_i,Wy.fin_k,zf8,z0D];have e:decide (Int.ofNat v.Text.size<=(255:Int))=decide (v.Text.size<=255):=zoF _ 255;rw [e];by_cases h0:v.Kind=0
 ·simp [h0]
 ·by_cases h1:v.Kind=1
  ·by_cases h2:v.Int=0 <;>simp [h1,h2]
  ·by_cases h2:v.Kind=2
   ·by_cases h3:v.Int=0
    ·simp [h2,h3]
    ·by_cases h4:v.Int=1 <;>simp [h2,h3,h4]
   ·simp [h0,h1,h2]
theorem zFH (v:Value):ztz v=(true,zqI v):=by
 unfold ztz zTn zqI;simp only [z88,Wy.fin_i,Wy.fin_k,zf8,z0D];have e:decide (Int.ofNat v.Text.size<=(255:Int))=decide (v.Text.size<=255):=zoF _ 255;rw [e];by_cases h0:v.Kind=0
 ·simp [h0]
 ·by_cases h1:v.Kind=1
  ·by_cases h2:v.Int=0 <;>simp [h1,h2]
  ·by_cases h2:v.Kind=2
   ·by_cases h3:v.Int=0
    ·by_cases h4:v.Text.size=0 <;>simp [h2,h3,h4]
    ·by_cases h4:v.Text.size=0 <;>simp [h2,h3,h4]
   ·simp [h0,h1,h2]
def zJX (fn:Int) (b:Value) (w:Wd):Bool:=zqI w.Value&&(w.Value.Kind==b.Kind)&& !(fn==0&&w.Value.Int != 1)
def zz6 (fn:Int) (l:yD) (op:Int) (b:Value):Bool:=decide (0<=fn)&&decide (fn<=3)&&decide (5<=op)&&decide (op<=10)&&zqI b&& !(decide (fn<=1)&&b.Kind != 0)&&l.all (zJX fn b)
theorem zbdu (l:yD) (fn:Int) (b:Value) (h:l.length<=1000000):zbw l b fn=(true, !l.all (zJX fn b)):=by
 unfold zbw zg0;have:zdb l b fn=IG (λ(g:Value×(Int×Unit)×Unit) x=>zhC x g.1 g.2.1.1) (l.length+fn.toNat +(Int.ofNat l.length).toNat +Int.toNat (0:Int)+(1:Nat)) (b,(fn,()),()) l:=rfl
 have e:(!l.all (zJX fn b))=l.any λw=> !zJX fn b w:=by simp [List.all_eq_not_any_not]
 rw [e]
 exact zkD (this.trans (zJB _ _ _ _ _ (by omega) (λx _=>by
  show zhC x b fn=_;unfold zhC zzR zJX;simp only [Wy.fin_i,Wy.fin_k,Wy.fin_bn,zzx,cond_true,zf8,zpE];cases zqI x.Value <;>by_cases h1:x.Value.Kind=b.Kind <;>by_cases h2:fn=0 <;>simp [zf8,zpE,h1,h2]) (by omega)))
theorem z2T (fn:Int) (l:yD) (op:Int) (b:Value) (h:l.length<=1000000):zkc fn l op b=(true,zz6 fn l op b):=by
 unfold zkc zDW zz6;simp only [Wy.fin_i,Wy.fin_k,Wy.fin_bn,zzx,zbdu l fn b h,cond_true,zf8,zpE];by_cases h1:fn<0
 ·have:¬ (0<=fn):=by omega
  simp [h1,this]
 by_cases h2:3<fn
 ·have:¬ (fn<=3):=by omega
  simp [h1,h2,this]
 by_cases h3:op<5
 ·have:¬ (5<=op):=by omega
  simp [h1,h2,h3,this]
 by_cases h4:10<op
 ·have:¬ (op<=10):=by omega
  simp [h1,h2,h3,h4,this]
 have g1:0<=fn:=by omega
 have g2:fn<=3:=by omega
 have g3:5<=op:=by omega
 have g4:op<=10:=by omega
 cases zqI b with
 | false=>simp [h1,h2,h3,h4]
 | true=>
  by_cases h5:fn=0
  ·subst h5; by_cases h6:b.Kind=0 <;>simp [h3,h4,h6,g3,g4]
  ·by_cases h7:fn=1
   ·subst h7; by_cases h6:b.Kind=0 <;>simp [h3,h4,h6,g3,g4]
   ·have:¬ fn<=1:=by omega
    simp [h1,h2,h3,h4,h5,h7,this,g1,g2,g3,g4]
theorem z8b (fn:Int) (l:yD) (op:Int) (b:Value) (h:l.length<=1000000):zxi fn l op b=(true,zz6 fn l op b):=by
 unfold zxi zTe zz6
 have hl:zFJ (fn.toNat +l.length+Int.toNat (0:Int)+(1:Nat)) fn l (0:Int) b=(true,bif l.all (zJX fn b) then .inr () else .inl false):=by
  have:=zcs (W:=zFF) (z:=.inl default) l.length (λk=>(fn,l,(),(k:Int),())) (λ_=>(b,())) (λk=>zJX fn b (l.getD k default)) (.inl false) (.inr ())
   (λk hk H K D=>by
    show (zux fn l k b).ev H K D=_;unfold zux zJX;simp only [Wy.ev_i,Wy.ev_k,Wy.ev_h,Wy.ev_bn,Wy.ev_d,tT,hk,zFH,zf8,zpE];rw [zw (by omega)]
    cases zqI (l.getD k default).Value <;>cases decide ((l.getD k default).Value.Kind=b.Kind) <;>cases decide (fn=0) <;>cases decide ((l.getD k default).Value.Int=1) <;>rfl)
   (λH K D=>by
    show (zux fn l l.length b).ev H K D=_;unfold zux;simp only [Wy.ev_i,Wy.ev_k,Wy.ev_h,Wy.ev_bn,Wy.ev_d,tT,Nat.lt_irrefl]) (fn.toNat +l.length+Int.toNat (0:Int)+(1:Nat)) (by omega)
  rw [zy8] at this;exact this
 simp only [Wy.fin_i,Wy.fin_k,Wy.fin_bn,zFH,hl,cond_true,zf8,zpE];by_cases h1:fn<0
 ·have:¬ (0<=fn):=by omega
  simp [h1,this]
 by_cases h2:3<fn
 ·have:¬ (fn<=3):=by omega
  simp [h1,h2,this]
 by_cases h3:op<5
 ·have:¬ (5<=op):=by omega
  simp [h1,h2,h3,this]
 by_cases h4:10<op
 ·have:¬ (op<=10):=by omega
  simp [h1,h2,h3,h4,this]
 have g1:0<=fn:=by omega
 have g2:fn<=3:=by omega
 have g3:5<=op:=by omega
 have g4:op<=10:=by omega
 cases zqI b with
 | false=>simp [h1,h2,h3,h4]
 | true=>
  by_cases h5:fn<=1
  ·by_cases h6:b.Kind=0
   ·cases l.all (zJX fn b) <;>simp [h1,h2,h3,h4,h5,h6,g1,g2,g3,g4,isL,getL]
   ·simp [h1,h2,h3,h4,h5,h6,g1,g2,g3,g4]
  ·cases l.all (zJX fn b) <;>simp [h1,h2,h3,h4,h5,g1,g2,g3,g4,isL,getL]
def bz (b:Value):Bool:=b.Kind==(0:Int)&&(b.Int==(0:Int)&&(b.Text.toList==(ByteArray.mk #[]).toList&&true))
def plA (x:At):Bool:=x.Func==0&&(x.Items.length==0)&&x.Op==0&&bz x.Bd
theorem zbeA (x:At):zp1 x=(true,plA x):=by
 unfold zp1 zSW plA;simp only [Wy.fin_i,Wy.fin_k,Int.ofNat_eq_natCast,i0];show _=(true,_&&_&&_&&bz x.Bd);rw [show (x.Bd.Kind==(0:Int)&&(x.Bd.Int==(0:Int)&&(x.Bd.Text.toList==(ByteArray.mk #[]).toList&&true)))=bz x.Bd from rfl]
 cases x.Func==0 <;>cases x.Items.length==0 <;>cases x.Op==0 <;>rfl
def zSF (l:yD) (k:Nat):Bool:=decide (k=0)||decide (zbb (zbc (l.getD (k - 1) default)) (zbc (l.getD k default))<=0)
def zW3 (l:yD):Bool:=zdK (zSF l) l.length 0
theorem zWy (c:Nat->Bool):∀ n i,zdK c (n+1) i=(zdK c n i&&c (i+n))
 | 0,i=>by simp [zdK]
 | n+1,i=>by
  rw [zdK,zWy c n (i+1),zdK,show i+1+n=i+(n+1) by omega,Bool.and_assoc]
theorem zSL {d:Nat} (l:yD) (hl:l.length<=1000000) (h:∀ w∈l,zp d w.Ann) (hd:d<=99):∀ (n i:Nat),i<l.length->i<n->zen n l i=(true,bif zdK (zSF l) (i+1) 0 then .inr () else .inl false)
 | 0,i,hi,hn=>by omega
 | n+1,i,hi,hn=>by
  show (zeo l i).ev (λx y=>zen n x.1 x.2.2.1) (λr=>(true,r)) (false,.inl default)=_
  unfold zeo;have hg:decide ((i:Int)>(0:Int))=decide (0<i):=zjp i 0;cases i with
  | zero=>simp [Wy.ev_i,Wy.ev_k,zdK,zSF]
  | succ i=>
   have hi':i<l.length:=by omega
   have hw:IntKind.i64.wrap (((i+1:Nat):Int) - 1)=(i:Int):=by rw [zyM (by omega) (by omega)]; rfl
   have hp:decide (0<i+1)=true:=by simp
   simp only [Wy.ev_i,Wy.ev_k,Wy.ev_h,Wy.ev_bn,Wy.ev_d,hg,hp,hw,tT,hi,hi',zjG (h _ (zn hi)) hd];rw [zSL l hl h hd n i hi' (by omega),zWy _ (i+1),Nat.zero_add]
   have:zSF l (i+1)= !decide (zbb (zbc (l.getD (i+1) default)) (zbc (l.getD i default))<0):=by
    unfold zSF;rw [show i+1 - 1=i from rfl,zfX (zbc (l.getD (i+1) default)) (zbc (l.getD i default))]
    generalize zbb (zbc (l.getD (i+1) default)) (zbc (l.getD i default))=z;by_cases hz:z<0
    ·have:¬ (-z<=0):=by omega
     simp [hz,this]
    ·have:(-z<=0):=by omega
     simp [hz,this]
   rw [this];cases decide (zbb (zbc (l.getD (i+1) default)) (zbc (l.getD i default))<0) <;>simp
theorem z9O {d:Nat} (l:yD) (hl:l.length<=1000000) (h:∀ w∈l,zp d w.Ann) (hd:d<=99):zch l=(true,zW3 l):=by
 unfold zch zia zW3
 match l,hl,h with
 | [],_,_=>rfl
 | x::r,hl,h=>
  have hw:IntKind.i64.wrap (Int.ofNat (x::r).length - 1)=(r.length:Int):=by
   rw [qf] at hl;rw [show Int.ofNat (x::r).length=(((x::r).length:Nat):Int) from rfl,zyM (by simp) (by simp; omega)]; rfl
  rw [Wy.fin_bn,hw,zSL (x::r) hl h hd _ r.length (by simp) (by simp; omega)]
  cases zdK (zSF (x::r)) (r.length+1) 0 with
  | true=>simp [Wy.fin_i,Wy.fin_k,isL]
  | false=>simp [Wy.fin_i,Wy.fin_k,isL,getL]
section
variable {τ:Type} [Inhabited τ]
theorem z8E (A B:List τ) (x:τ):(A++x::B).getD A.length default=x:=by
 rw [List.getD_eq_getElem?_getD,List.getElem?_append_right (Nat.le_refl _)]; simp
theorem z7z (A B:List τ) (x y:τ):(A++x::B).set A.length y=A++y::B:=by
 rw [List.set_append_right _ _ (Nat.le_refl _)]; simp
theorem zbeX (A B C:List τ) (x y:τ):(A++x::(B++y::C)).getD (A.length+1+B.length) default=y:=by
 have:=z8E (A++x::B) C y;rw [qg,qf,show A.length+(B.length+1)=A.length+1+B.length by omega,List.append_assoc,List.cons_append] at this
 exact this
theorem zbfX (A B C:List τ) (x y z:τ):(A++x::(B++y::C)).set (A.length+1+B.length) z=A++x::(B++z::C):=by
 have:=z7z (A++x::B) C y z;rw [qg,qf,show A.length+(B.length+1)=A.length+1+B.length by omega,List.append_assoc,List.cons_append,List.append_assoc,List.cons_append] at this
 exact this
end
structure CW (U:Row->Prop):Prop where
 ends : ∀ x y, U x -> U y -> ∃ z, zcp x y = (true, z)
def ltW (x y:Row):Prop:=(zcp x y).2<0
theorem CW.eq {U:Row->Prop} (h:CW U) {x y:Row} (hx:U x) (hy:U y):zcp x y=(true,(zcp x y).2):=by
 obtain ⟨z,e⟩:=h.ends x y hx hy;rw [e]
theorem zbeK {U:Row->Prop} (hU:CW U) (P S:yF) (a b i:Int) (ha:a=(P.length:Int)):∀ (n:Nat) (L R:yF) (x:Row),(P++L++x::(R++S)).length<=1000000->L.length<n->U x->(∀ y∈L,U y)->
  ∃ L' R',zg4 n a b i ((P.length+L.length:Nat):Int) (P++L++x::(R++S))=(true,(a,b,i,P++L'++x::(R'++S)))/\L'++R'=L++R/\(∀ r∈R',r∈R\/ltW x r)/\(L'=[]\/∃ L0 y,L'=L0++[y]/\¬ ltW x y)
 | 0,L,R,x,hN,hn,_,_=>by omega
 | n+1,L,R,x,hN,hn,hx,hL=>by
  subst ha;simp only [qg,qf] at hN;show ∃ L' R',(zg3 P.length b i (P.length+L.length:Nat) (P++L++x::(R++S))).ev (λx y=>zg4 n x.2.1 x.2.2.1 x.2.2.2.2.1 x.2.2.2.2.2.1 y.1) (λr=>(true,r)) (false,default)=_/\_
  unfold zg3;rcases List.eq_nil_or_concat L with rfl | ⟨L0,y,rfl⟩
  ·have e:decide (((P.length+([]:yF).length:Nat):Int)>(P.length:Int))=false:=by rw [decide_eq_false_iff_not]; simp
   simp only [Wy.ev_i,Wy.ev_k,e,cond_false];exact ⟨[],R,rfl,rfl,λr hr=>.inl hr,.inl rfl⟩
  ·rw [List.concat_eq_append] at *;simp only [qg,List.length_singleton] at hN hn;have e:decide (((P.length+(L0++[y]).length:Nat):Int)>(P.length:Int))=true:=by rw [qe]; simp; omega
   have ed:P++(L0++[y])++x::(R++S)=(P++L0)++y::([]++x::(R++S)):=by simp
   have ej:((P.length+(L0++[y]).length:Nat):Int)=(((P++L0).length+1+([]:yF).length:Nat):Int):=by simp; omega
   have wj:IntKind.i64.wrap ((((P++L0).length+1+([]:yF).length:Nat):Int) - 1)=(((P++L0).length:Nat):Int):=by
    simp only [qg,List.length_nil];rw [zeH (by omega) (by omega)]; omega
   have hlen:∀ u v:Row,((P++L0)++u::([]++v::(R++S))).length=P.length+L0.length+1+1+R.length+S.length:=λu v=>by simp only [qg,qf,List.length_nil]; omega
   have g1:∀ u v:Row,(decide ((0:Int)<=(((P++L0).length+1+([]:yF).length:Nat):Int))&&decide ((((P++L0).length+1+([]:yF).length:Nat):Int)<Int.ofNat ((P++L0)++u::([]++v::(R++S))).length))=true:=λu v=>by
    rw [hlen]; simp only [qc,qe,Int.ofNat_eq_natCast,qg,List.length_nil]; omega
   have g2:∀ u v:Row,(decide ((0:Int)<=(((P++L0).length:Nat):Int))&&decide ((((P++L0).length:Nat):Int)<Int.ofNat ((P++L0)++u::([]++v::(R++S))).length))=true:=λu v=>by
    rw [hlen]; simp only [qc,qe,Int.ofNat_eq_natCast,qg]; omega
   have g3:∀ u v:Row,decide ((P++L0).length+1+([]:yF).length<((P++L0)++u::([]++v::(R++S))).length)=true:=λu v=>by
    rw [hlen,qe]; simp only [qg,List.length_nil]; omega
   have g4:∀ u v:Row,decide ((P++L0).length<((P++L0)++u::([]++v::(R++S))).length)=true:=λu v=>by
    rw [hlen,qe]; simp only [qg]; omega
   obtain ⟨z,ez⟩:=hU.ends x y hx (hL y (by simp))
   have hz:ltW x y↔z<0:=by unfold ltW; rw [ez]
   rw [e,ed,ej,wj];simp only [Wy.ev_i,Wy.ev_k,Wy.ev_h,Wy.ev_bn,Wy.ev_d,Int.toNat_natCast,g1,g2,g3,g4,zbeX,z8E,zbfX,z7z,cond_true,ez];by_cases hlt:z<0
   ·rw [decide_eq_true hlt,cond_true];obtain ⟨L',R',k1,k2,k3,k4⟩:=zbeK hU P S P.length b i rfl n L0 (y::R) x (by simp only [qg,qf]; omega) (by omega) hx (λz hz=>hL z (by simp [hz]))
    refine ⟨L',R', ?_,by rw [k2]; simp,λr hr=> ?_,k4⟩
    ·rw [<- k1];simp
    ·rcases k3 r hr with h | h
     ·rcases qd.1 h with rfl | h
      ·exact .inr (hz.2 hlt)
      ·exact .inl h
     ·exact .inr h
   ·rw [decide_eq_false hlt,cond_false];refine ⟨L0++[y],R, ?_,rfl,λr hr=>.inl hr,   .inr ⟨L0,y,rfl,λh=>hlt (hz.1 h)⟩⟩
    simp
abbrev zBz (l:yF):Prop:=l.Pairwise λx y=>¬ ltW y x
structure OW (U:Row->Prop):Prop extends CW U where
 asym:∀ x y,U x->U y->ltW x y->¬ ltW y x
 ntr:∀ x y z,U x->U y->U z->¬ ltW x y->¬ ltW y z->¬ ltW x z
def clW (v y:Row):Bool:=decide (¬ (zcp v y).2<0)&&decide (¬ (zcp y v).2<0)
theorem zXU {v y:Row}:clW v y=true↔¬ ltW v y/\¬ ltW y v:=by unfold clW ltW; simp
structure PS (U:Row->Prop) (Z L:yF):Prop where
 perm:Z.Perm L
 stab:∀ v,U v->Z.filter (clW v)=L.filter (clW v)
theorem PS.refl {U:Row->Prop} (L:yF):PS U L L:=⟨.refl _,λ_ _=>rfl⟩
theorem PS.trans {U:Row->Prop} {A B C:yF} (h:PS U A B) (k:PS U B C):PS U A C:=⟨h.perm.trans k.perm,λv hv=>(h.stab v hv).trans (k.stab v hv)⟩
theorem PS.append {U:Row->Prop} {A B C D:yF} (h:PS U A B) (k:PS U C D):PS U (A++C) (B++D):=⟨h.perm.append k.perm,λv hv=>by rw [List.filter_append,List.filter_append,h.stab v hv,k.stab v hv]⟩
theorem PS.swap {U:Row->Prop} (h:OW U) {A B:yF} (hA:∀ y∈A,U y) (hB:∀ y∈B,U y) (hl:∀ a∈A,∀ b∈B,ltW a b\/ltW b a):PS U (A++B) (B++A):=⟨List.perm_append_comm,λv hv=>by
 rw [List.filter_append,List.filter_append];cases ea:A.filter (clW v) with
 | nil=>simp
 | cons a A'=>
  cases eb:B.filter (clW v) with
  | nil=>simp
  | cons b B'=>
   exfalso;obtain ⟨a1,a2⟩:=List.mem_filter.1 (show a∈A.filter (clW v) by rw [ea]; simp)
   obtain ⟨b1,b2⟩:=List.mem_filter.1 (show b∈B.filter (clW v) by rw [eb]; simp)
   obtain ⟨a3,a4⟩:=zXU.1 a2;obtain ⟨b3,b4⟩:=zXU.1 b2;rcases hl a a1 b b1 with h1 | h1
   ·exact h.ntr a v b (hA a a1) hv (hB b b1) a4 b3 h1
   ·exact h.ntr b v a (hB b b1) hv (hA a a1) b4 a3 h1⟩
theorem zbbJ {U:Row->Prop} (h:OW U) {L R:yF} {x:Row} (hx:U x) (hL:∀ y∈L++R,U y) (hs:zBz (L++R)) (h1:∀ r∈R,ltW x r) (h2:L=[]\/∃ L0 y,L=L0++[y]/\¬ ltW x y):zBz (L++x::R):=by
 have hs':=List.pairwise_append.1 hs;refine List.pairwise_append.2 ⟨hs'.1,qi.2 ⟨λr hr=>h.asym x r hx (hL r (by simp [hr])) (h1 r hr),hs'.2.1⟩,λy hy z hz=> ?_⟩
 rcases qd.1 hz with rfl | hz
 ·rcases h2 with rfl | ⟨L0,w,rfl,hw⟩
  ·cases hy
  ·rcases List.mem_append.1 hy with hy | hy
   ·have:=(List.pairwise_append.1 hs'.1).2.2 y hy w (by simp)
    exact h.ntr z w y hx (hL w (by simp)) (hL y (by simp [hy])) hw this
   ·rw [qh.1 hy]; exact hw
 ·exact hs'.2.2 y hy z hz
theorem zbeQ {U:Row->Prop} (h:OW U) (P S:yF) (a b:Int) (ha:a=(P.length:Int)):∀ (n:Nat) (Z1 Z2:yF),(P++Z1++Z2++S).length<=1000000->b=((P.length+Z1.length+Z2.length:Nat):Int)->Z2.length<n->(∀ y∈Z1,U y)->(∀ y∈Z2,U y)->zBz Z1->Z1.length<=900->
  Z1.length+Z2.length<=900->∃ Z,zdj n a b ((P.length+Z1.length:Nat):Int) (P++Z1++Z2++S)=(true,P++Z++S)/\PS U Z (Z1++Z2)/\zBz Z
 | 0,Z1,Z2,hN,hb,hn,_,_,_,_,_=>by omega
 | n+1,Z1,Z2,hN,hb,hn,u1,u2,hs,h9,h99=>by
  simp only [qg] at hN;show ∃ Z,(zdh a b (P.length+Z1.length:Nat) (P++Z1++Z2++S)).ev (λx y=>zdj n x.2.1 x.2.2.1 x.2.2.2.2.1 y.1) (λr=>(true,r)) (false,default)=_/\_
  unfold zdh;cases Z2 with
  | nil=>
   have e:decide (((P.length+Z1.length:Nat):Int)<b)=false:=by rw [decide_eq_false_iff_not,hb]; simp
   simp only [Wy.ev_i,Wy.ev_k,e,cond_false];exact ⟨Z1,by simp,by rw [List.append_nil]; exact PS.refl _,hs⟩
  | cons x Z2=>
   simp only [qf] at hN hb hn h99;have e:decide (((P.length+Z1.length:Nat):Int)<b)=true:=by rw [qe,hb]; omega
   obtain ⟨L',R',k1,k2,k3,k4⟩:=zbeK h.toCW P (Z2++S) a b ((P.length+Z1.length:Nat):Int) ha (a.toNat +b.toNat +(P.length+Z1.length)+(P.length+Z1.length)+(P++Z1++x::Z2++S).length+1000) Z1 [] x (by simp only [qg,qf,List.length_nil]; omega) (by omega) (u2 x (by simp)) u1
   have ed:P++Z1++x::([]++(Z2++S))=P++Z1++x::Z2++S:=by simp
   rw [ed] at k1;simp only [Wy.ev_i,Wy.ev_k,Wy.ev_h,Wy.ev_bn,Wy.ev_d,e,cond_true,Int.toNat_natCast,k1];rw [List.append_nil] at k2
   have hlen:(L'++x::R').length=Z1.length+1:=by
    have:=congrArg List.length k2;simp only [qg,qf] at *; omega
   have hsl:zBz (L'++x::R'):=zbbJ h (u2 x (by simp)) (λy hy=>by rw [k2] at hy; exact u1 y hy) (by rw [k2]; exact hs) (λr hr=>by
    rcases k3 r hr with h | h
    ·cases h
    ·exact h) k4
   have hmem:∀ y∈L'++x::R',U y:=λy hy=>by
    rcases List.mem_append.1 hy with hy | hy
    ·exact u1 y (by rw [<- k2]; simp [hy])
    ·rcases qd.1 hy with rfl | hy
     ·exact u2 y (by simp)
     ·exact u1 y (by rw [<- k2]; simp [hy])
   obtain ⟨Z,m1,m2,m3⟩:=zbeQ h P S a b ha n (L'++x::R') Z2 (by simp only [qg] at hlen ⊢; simp only [qf] at hlen ⊢; omega) (by rw [hb,hlen]; omega) (by omega) hmem (λy hy=>u2 y (by simp [hy])) hsl (by omega) (by omega)
   refine ⟨Z, ?_,m2.trans ?_,m3⟩
   ·have wi:IntKind.i64.wrap (((P.length+Z1.length:Nat):Int)+1)=((P.length+(L'++x::R').length:Nat):Int):=by rw [hlen,zeH (by omega) (by omega)]; omega
    rw [wi, <- m1];congr 1;simp
   ·have hr:∀ r∈R',ltW x r:=λr hr=>(k3 r hr).resolve_left (by simp)
    have h1:PS U ([x]++R') (R'++[x]):=PS.swap h (λy hy=>by rw [qh.1 hy]; exact u2 x (by simp)) (λy hy=>hmem y (by simp [hy])) (λa ha b hb=>by rw [qh.1 ha]; exact .inl (hr b hb))
    have h2:=((PS.refl L').append h1).append (PS.refl Z2);rw [<- List.append_assoc L' R',k2] at h2
    simpa using h2
theorem zbix {U:Row->Prop} (h:OW U) (P Z S:yF) (hN:(P++Z++S).length<=1000000) (u:∀ y∈Z,U y) (h9:Z.length<=900) (a b:Int) (ha:a=(P.length:Int)) (hb:b=((P.length+Z.length:Nat):Int)):
  ∃ Z',zcS (P++Z++S) a b=(true,P++Z'++S)/\PS U Z' Z/\zBz Z':=by
 simp only [qg] at hN;unfold zcS zmy;have wa:IntKind.i64.wrap (a+1)=((P.length+1:Nat):Int):=by rw [ha,zeH (by omega) (by omega)]; omega
 rw [wa];cases Z with
 | nil=>
  refine ⟨[], ?_,PS.refl _,.nil⟩;have e:decide (((P.length+1:Nat):Int)<b)=false:=by rw [decide_eq_false_iff_not,hb]; simp; omega
  have e1:∀ k,zdj (k+1) a b ((P.length+1:Nat):Int) (P++([]:yF)++S)=(true,P++([]:yF)++S):=λk=>by
   show (zdh a b (P.length+1:Nat) (P++([]:yF)++S)).ev _ _ _=_;unfold zdh;rw [Wy.ev_i,e]; rfl
  have e2:zdj (a.toNat +b.toNat +Int.toNat ((P.length+1:Nat):Int)+(P++([]:yF)++S).length+(1000:Nat)) a b ((P.length+1:Nat):Int) (P++([]:yF)++S)=(true,P++([]:yF)++S):=e1 (a.toNat +b.toNat +Int.toNat ((P.length+1:Nat):Int)+(P++([]:yF)++S).length+999);rw [Wy.fin_bn,e2]; rfl
 | cons x Z=>
  simp only [qf] at hN h9 hb;obtain ⟨Z',k1,k2,k3⟩:=zbeQ h P S a b ha (a.toNat +b.toNat +Int.toNat ((P.length+1:Nat):Int)+(P++x::Z++S).length+(1000:Nat)) [x] Z (by simp only [qg,List.length_singleton]; omega) (by rw [hb]; simp only [List.length_singleton]; omega) (by omega) (λy hy=>u y (by rw [qh.1 hy]; simp)) (λy hy=>u y (by simp [hy])) (by simp) (by simp) (by simp only [List.length_singleton]; omega)
  have ed:P++[x]++Z++S=P++x::Z++S:=by simp
  rw [ed,show ([x]:yF).length=1 from rfl] at k1
  rw [Wy.fin_bn,k1];exact ⟨Z',rfl,k2,k3⟩
theorem zbdR (k:Nat) {n bs a b:Int} (D:yF) (h:¬ b<=n):zkr (k+1) n bs a b D=(true,(n,bs,a,D)):=by
 show (zkw n bs a b D).ev _ _ _=_;unfold zkw;rw [Wy.ev_i,decide_eq_false h]; rfl
theorem zbd3 (k:Nat) {n bs:Int} (D:yF) (h:¬ bs<n):zky (k+1) n bs D=(true,D):=by
 show (zkx n bs D).ev _ _ _=_;unfold zkx;rw [Wy.ev_i,decide_eq_false h]; rfl
theorem zbfe {U:Row->Prop} (hU:OW U) {l:yF} (u:∀ y∈l,U y) (h4:l.length<20):∃ Z,zct l=(true,Z)/\PS U Z l/\zBz Z:=by
 suffices h:∃ Z,zfu l (Int.ofNat l.length)=(true,Z)/\PS U Z l/\zBz Z by
  obtain ⟨Z,k1,k2,k3⟩:=h;refine ⟨Z, ?_,k2,k3⟩;unfold zct zkT;rw [Wy.fin_bn,k1]; rfl
 rw [Int.ofNat_eq_natCast];unfold zfu zsG;have e2:zkr (Int.toNat (l.length:Int)+Int.toNat (20:Int)+Int.toNat (0:Int)+Int.toNat (20:Int)+l.length+(1000:Nat)) l.length 20 0 20 l=(true,((l.length:Int),20,0,l)):=zbdR (Int.toNat (l.length:Int)+Int.toNat (20:Int)+Int.toNat (0:Int)+Int.toNat (20:Int)+l.length+999) l (by omega)
 obtain ⟨Z,k1,k2,k3⟩:=zbix hU [] l [] (by simp; omega) u (by omega) 0 (l.length:Int) (by simp) (by simp)
 have e7:zky (Int.toNat (l.length:Int)+Int.toNat (20:Int)+Z.length+(1000:Nat)) l.length 20 Z=(true,Z):=zbd3 (Int.toNat (l.length:Int)+Int.toNat (20:Int)+Z.length+999) Z (by omega)
 rw [List.nil_append,List.append_nil,List.nil_append,List.append_nil] at k1;refine ⟨Z, ?_,k2,k3⟩;simp only [Wy.fin_bn,e2,k1,e7,cond_true,Wy.fin_k]
def zBf (x:Row):yF->yF
 | []=>[x]
 | y::r=>if (zcp x y).2<0 then x::y::r else y::zBf x r
def zJk (l:yF):yF:=l.foldl (λs x=>zBf x s) []
theorem z5Q (x:Row):∀ l,(zBf x l).Perm (x::l)
 | []=>.refl _
 | y::r=>by
  rw [zBf];split
  ·exact .refl _
  ·exact ((z5Q x r).cons y).trans (.swap x y r)
section
variable {U:Row->Prop} (h:OW U)
include h
theorem z1s {x:Row} (hx:U x):¬ ltW x x:=λk=>h.asym x x hx hx k k
theorem z85 {x:Row} (hx:U x):∀ l,(∀ y∈l,U y)->zBz l->zBz (zBf x l)
 | [],_,_=>by simp [zBf]
 | y::r,u,a=>by
  have a':=qi.1 a;rw [zBf];split
  ·rename_i hlt;refine qi.2 ⟨λz hz=> ?_,a⟩
   have hy:¬ ltW y x:=h.asym x y hx (u y (by simp)) hlt
   rcases qd.1 hz with rfl | hz
   ·exact hy
   ·exact h.ntr z y x (u z (by simp [hz])) (u y (by simp)) hx (a'.1 z hz) hy
  ·rename_i hlt;refine qi.2 ⟨λz hz=> ?_,z85 hx r (λy hy=>u y (by simp [hy])) a'.2⟩
   rcases qd.1 ((z5Q x r).mem_iff.1 hz) with rfl | hz
   ·exact hlt
   ·exact a'.1 z hz
theorem zbaS {x:Row} (hx:U x):∀ l,(∀ y∈l,U y)->zBz l->PS U (zBf x l) (l++[x])
 | [],_,_=>PS.refl _
 | y::r,u,a=>by
  have a':=qi.1 a;rw [zBf];split
  ·rename_i hlt;refine PS.swap h (A:=[x]) (B:=y::r) (λz hz=>by rw [qh.1 hz]; exact hx) u λz hz b hb=> ?_
   rw [qh.1 hz];rcases qd.1 hb with rfl | hb
   ·exact .inl hlt
   ·exact .inl (Classical.byContradiction λhn=>h.ntr x b y hx (u b (by simp [hb])) (u y (by simp)) hn (a'.1 b hb) hlt)
  ·exact (PS.refl (U:=U) [y]).append (zbaS hx r (λy hy=>u y (by simp [hy])) a'.2)
theorem z0H:∀ l s,(∀ y∈s++l,U y)->zBz s->zBz (l.foldl (λs x=>zBf x s) s)/\PS U (l.foldl (λs x=>zBf x s) s) (s++l)
 | [],s,u,a=>⟨a,by rw [List.append_nil]; exact PS.refl _⟩
 | x::l,s,u,a=>by
  have hx:U x:=u x (by simp)
  have us:∀ y∈s,U y:=λy hy=>u y (by simp [hy])
  have p:=zbaS h hx s us a
  obtain ⟨k1,k2⟩:=z0H l (zBf x s) (λy hy=>by
   rcases List.mem_append.1 hy with hy | hy
   ·rcases List.mem_append.1 (p.perm.mem_iff.1 hy) with hy | hy
    ·exact us y hy
    ·rw [qh.1 hy]; exact hx
   ·exact u y (by simp [hy])) (z85 h hx s us a)
  refine ⟨k1,k2.trans ?_⟩;have:=p.append (PS.refl (U:=U) l)
  rwa [List.append_assoc] at this
theorem PS.uniq:∀ {Z L:yF},(∀ y∈L,U y)->zBz Z->zBz L->PS U Z L->Z=L
 | [],L,_,_,_,p=>p.perm.nil_eq
 | z::Z,[],_,_,_,p=>p.perm.eq_nil
 | z::Z,l::L,u,a,b,p=>by
  have hz:z∈l::L:=p.perm.mem_iff.1 (by simp)
  have hl:l∈z::Z:=p.perm.mem_iff.2 (by simp)
  have uz:=u z hz
  have h1:¬ ltW l z:=by
   rcases qd.1 hl with e | hl
   ·rw [e]; exact z1s h uz
   ·exact (qi.1 a).1 l hl
  have h2:¬ ltW z l:=by
   rcases qd.1 hz with e | hz
   ·rw [e]; exact z1s h (u l (by simp))
   ·exact (qi.1 b).1 z hz
  have c1:clW z z=true:=zXU.2 ⟨z1s h uz,z1s h uz⟩;have c2:clW z l=true:=zXU.2 ⟨h2,h1⟩;have f:=p.stab z uz;rw [List.filter_cons_of_pos c1,List.filter_cons_of_pos c2] at f;injection f with e f'
  subst e;refine congrArg _ (PS.uniq (λy hy=>u y (by simp [hy])) (qi.1 a).2 (qi.1 b).2 ⟨(List.perm_cons z).1 p.perm,λv hv=> ?_⟩)
  have f:=p.stab v hv;by_cases hc:clW v z=true
  ·rw [List.filter_cons_of_pos hc,List.filter_cons_of_pos hc] at f;injection f
  ·rw [List.filter_cons_of_neg hc,List.filter_cons_of_neg hc] at f;exact f
theorem zbft {l:yF} (u:∀ y∈l,U y) (h4:l.length<20):zct l=(true,zJk l):=by
 obtain ⟨Z,k1,k2,k3⟩:=zbfe h u h4;obtain ⟨m1,m2⟩:=z0H h l [] u .nil;rw [k1];refine congrArg _ (PS.uniq h (λy hy=>u y (m2.perm.mem_iff.1 hy)) k3 m1 (k2.trans ?_))
 exact ⟨m2.perm.symm,λv hv=>(m2.stab v hv).symm⟩
end
section
variable {ρ:Type} (c:ρ->ρ->Int) (add:ρ->ρ->Option ρ)
def zg8:List ρ->ρ->Option (List ρ)
 | [],x=>some [x]
 | y::l,x=>if c y x<0 then (zg8 l x).map (y::·) else if c y x=0 then (add y x).map (· ::l) else some (x::y::l)
def zgx:ρ->List ρ->Option (List ρ)
 | w,[]=>some [w]
 | w,x::r=>if c w x=0 then (add w x).bind λz=>zgx z r else (zgx x r).map (w::·)
def mrg:List ρ->Option (List ρ)
 | []=>some []
 | x::r=>zgx c add x r
def zyF (x:ρ):List ρ->List ρ
 | []=>[x]
 | y::r=>if c x y<0 then x::y::r else y::zyF x r
structure MO (V:ρ->Prop):Prop where
 anti:∀ x y,V x->V y->(c x y<0↔0<c y x)
 trans:∀ x y z,V x->V y->V z->c x y<=0->c y z<=0->c x z<=0
 key:∀ x y z,V x->V y->add x y=some z->V z/\∀ w,V w->(c z w=c x w/\c w z=c w x)
variable {c add} {V:ρ->Prop} (h:MO c add V)
include h
theorem MO.zero {x y:ρ} (hx:V x) (hy:V y):c x y=0↔c y x=0:=by
 have h1:=h.anti x y hx hy;have h2:=h.anti y x hy hx;omega
theorem MO.lt1 {x y z:ρ} (hx:V x) (hy:V y) (hz:V z) (h1:c x y<0) (h2:c y z<=0):c x z<0:=by
 have a:=h.trans x y z hx hy hz (by omega) h2
 have b1:=h.anti x y hx hy;have b2:=h.anti y x hy hx;have b3:=h.anti x z hx hz;have b4:=h.anti z x hz hx;have b5:=h.anti y z hy hz;by_cases e:c x z=0
 ·have:=h.trans y z x hy hz hx h2 (by omega)
  omega
 ·omega
theorem MO.lt2 {x y z:ρ} (hx:V x) (hy:V y) (hz:V z) (h1:c x y<=0) (h2:c y z<0):c x z<0:=by
 have a:=h.trans x y z hx hy hz h1 (by omega)
 have b1:=h.anti x y hx hy;have b2:=h.anti y x hy hx;have b3:=h.anti x z hx hz;have b4:=h.anti z x hz hx;have b5:=h.anti y z hy hz;by_cases e:c x z=0
 ·have:=h.trans z x y hz hx hy (by omega) h1
  omega
 ·omega
theorem z41:∀ (r:List ρ) (w:ρ) (M:List ρ),V w->(∀ y∈r,V y)->zgx c add w r=some M->∃ m t,M=m::t/\V m/\∀ x,V x->(c m x=c w x/\c x m=c x w)
 | [],w,M,hw,_,e=>by
  rw [zgx,qa] at e;exact ⟨w,[],e.symm,hw,λx _=>⟨rfl,rfl⟩⟩
 | x::r,w,M,hw,u,e=>by
  rw [zgx] at e;split at e
  ·cases ea:add w x with
   | none=>rw [ea] at e; cases e
   | some z=>
    rw [ea] at e;obtain ⟨k1,k2⟩:=h.key w x z hw (u x (by simp)) ea
    obtain ⟨m,t,e1,e2,e3⟩:=z41 r z M k1 (λy hy=>u y (by simp [hy])) e
    exact ⟨m,t,e1,e2,λy hy=>⟨(e3 y hy).1.trans (k2 y hy).1,(e3 y hy).2.trans (k2 y hy).2⟩⟩
  ·cases ea:zgx c add x r with
   | none=>rw [ea] at e; cases e
   | some M'=>
    rw [ea] at e;rw [Option.map_some,qa] at e;exact ⟨w,M',e.symm,hw,λx _=>⟨rfl,rfl⟩⟩
theorem z5B {r:List ρ} {w x:ρ} (hw:V w) (hx:V x) (u:∀ y∈r,V y) (hxw:c x w<0):(zgx c add w r).map (x::·)=(zgx c add w r).bind (λM=>zg8 c add M x):=by
 cases e:zgx c add w r with
 | none=>rfl
 | some M=>
  obtain ⟨m,t,rfl,e2,e3⟩:=z41 h r w M hw u e;have h1:=(h.anti x w hx hw).1 hxw;have h2:=(e3 x hx).1;rw [Option.map_some,Option.bind_some,zg8,if_neg (by omega),if_neg (by omega)]
theorem zZZ {x:ρ} (hx:V x):∀ (r:List ρ) (w:ρ),V w->(∀ y∈r,V y)->(w::r).Pairwise (λa b=>c a b<=0)->c w x<=0->zgx c add w (zyF c x r)=(zgx c add w r).bind λM=>zg8 c add M x
 | [],w,hw,_,_,hle=>by
  rw [zyF,zgx,zgx,zgx,Option.bind_some,zg8,zg8];by_cases e:c w x=0
  ·rw [if_pos e,if_neg (by omega),if_pos e]; cases add w x <;>rfl
  ·rw [if_neg e,if_pos (by omega)]
 | y::r,w,hw,u,p,hle=>by
  have hy:V y:=u y (by simp)
  have ur:∀ y∈r,V y:=λy hy=>u y (by simp [hy])
  have p':=qi.1 p;have hwy:c w y<=0:=p'.1 y (by simp)
  have pr:=qi.1 p'.2;have ax:=h.anti x y hx hy;have ay:=h.anti y x hy hx;rw [zyF];by_cases hlt:c x y<0
  ·rw [if_pos hlt];have hwy':c w y<0:=h.lt2 hw hx hy hle hlt;rw [zgx];by_cases e:c w x=0
   ·rw [if_pos e];rw [show zgx c add w (y::r)=(zgx c add y r).map (w::·) by rw [zgx,if_neg (by omega)]]
    cases ea:add w x with
    | none=>
     rw [Option.bind_none];cases zgx c add y r with
     | none=>rfl
     | some M=>rw [Option.map_some,Option.bind_some,zg8,if_neg (by omega),if_pos e,ea]; rfl
    | some z=>
     obtain ⟨k1,k2⟩:=h.key w x z hw hx ea;rw [Option.bind_some,zgx,if_neg (by rw [(k2 y hy).1]; omega)]
     cases zgx c add y r with
     | none=>rfl
     | some M=>rw [Option.map_some,Option.map_some,Option.bind_some,zg8,if_neg (by omega),if_pos e,ea]; rfl
   ·rw [if_neg e];rw [show zgx c add w (y::r)=(zgx c add y r).map (w::·) by rw [zgx,if_neg (by omega)]]
    rw [zgx,if_neg (by omega),z5B h hy hx ur hlt]
    cases zgx c add y r with
    | none=>rfl
    | some M=>rw [Option.map_some,Option.bind_some,Option.bind_some,zg8,if_pos (by omega)]
  ·rw [if_neg hlt,zgx,zgx];by_cases e:c w y=0
   ·rw [if_pos e,if_pos e];cases ea:add w y with
    | none=>rfl
    | some z=>
     obtain ⟨k1,k2⟩:=h.key w y z hw hy ea;rw [Option.bind_some,Option.bind_some];exact zZZ hx r z k1 ur (qi.2 ⟨λb hb=>by rw [(k2 b (ur b hb)).1]; exact p'.1 b (by simp [hb]),pr.2⟩) (by rw [(k2 x hx).1]; exact hle)
   ·rw [if_neg e,if_neg e,zZZ hx r y hy ur p'.2 (by omega)]
    have hwx:c w x<0:=h.lt1 hw hy hx (by omega) (by omega)
    cases zgx c add y r with
    | none=>rfl
    | some M=>rw [Option.map_some,Option.bind_some,Option.bind_some,zg8,if_pos hwx]
theorem zbgf {x:ρ} (hx:V x):∀ (r:List ρ),(∀ y∈r,V y)->r.Pairwise (λa b=>c a b<=0)->mrg c add (zyF c x r)=(mrg c add r).bind λM=>zg8 c add M x
 | [],_,_=>rfl
 | y::r,u,p=>by
  have hy:V y:=u y (by simp)
  have ur:∀ y∈r,V y:=λy hy=>u y (by simp [hy])
  rw [zyF];by_cases hlt:c x y<0
  ·rw [if_pos hlt];show zgx c add x (y::r)=(zgx c add y r).bind _;rw [zgx,if_neg (by omega),z5B h hy hx ur hlt]
  ·rw [if_neg hlt];have ax:=h.anti x y hx hy;have ay:=h.anti y x hy hx;exact zZZ h hx r y hy ur p (by omega)
theorem zZ1 {x y:ρ}:∀ {r:List ρ},y∈zyF c x r->y=x\/y∈r
 | [],k=>by rw [zyF] at k; simp_all
 | z::r,k=>by
  rw [zyF] at k;split at k
  ·exact qd.1 k
  ·rcases qd.1 k with rfl | k
   ·exact .inr (by simp)
   ·exact (zZ1 k).imp id λk=>by simp [k]
theorem z9B {x:ρ} (hx:V x):∀ (r:List ρ),(∀ y∈r,V y)->r.Pairwise (λa b=>c a b<=0)->(zyF c x r).Pairwise λa b=>c a b<=0
 | [],_,_=>by simp [zyF]
 | y::r,u,p=>by
  have hy:V y:=u y (by simp)
  have p':=qi.1 p;rw [zyF];split
  ·rename_i hlt;refine qi.2 ⟨λz hz=> ?_,p⟩
   rcases qd.1 hz with rfl | hz
   ·omega
   ·exact h.trans x y z hx hy (u z (by simp [hz])) (by omega) (p'.1 z hz)
  ·rename_i hlt;have ax:=h.anti x y hx hy;have ay:=h.anti y x hy hx;refine qi.2 ⟨λz hz=> ?_,z9B hx r (λy hy=>u y (by simp [hy])) p'.2⟩
   rcases zZ1 h hz with rfl | hz
   ·omega
   ·exact p'.1 z hz
theorem z7u:∀ (l s:List ρ),(∀ y∈s++l,V y)->s.Pairwise (λa b=>c a b<=0)->mrg c add (l.foldl (λs x=>zyF c x s) s)=l.foldl (λo x=>o.bind λM=>zg8 c add M x) (mrg c add s)
 | [],s,_,_=>rfl
 | x::l,s,u,p=>by
  have hx:V x:=u x (by simp)
  have us:∀ y∈s,V y:=λy hy=>u y (by simp [hy])
  rw [List.foldl_cons,List.foldl_cons, <- zbgf h hx s us p];refine z7u l (zyF c x s) (λy hy=> ?_) (z9B h hx s us p)
  rcases List.mem_append.1 hy with hy | hy
  ·rcases zZ1 h hy with rfl | hy
   ·exact hx
   ·exact us y hy
  ·exact u y (by simp [hy])
end
def zQ6 {ρ:Type} (c:ρ->ρ->Int) (add:ρ->ρ->Option ρ):Option (List ρ)->ρ->Option (List ρ)
 | none,_=>none
 | some o,x=>match o.getLast? with
  | none=>some [x]
  | some w=>if c w x=0 then (add w x).map λz=>o.dropLast++[z] else some (o++[x])
theorem zVV {ρ:Type} (c:ρ->ρ->Int) (add:ρ->ρ->Option ρ):∀ l:List ρ,l.foldl (zQ6 c add) none=none
 | []=>rfl
 | x::l=>zVV c add l
theorem zWB {ρ:Type} (c:ρ->ρ->Int) (add:ρ->ρ->Option ρ):∀ (l o:List ρ) (w:ρ),l.foldl (zQ6 c add) (some (o++[w]))=(zgx c add w l).map (o++·)
 | [],o,w=>rfl
 | x::l,o,w=>by
  rw [List.foldl_cons,zgx];unfold zQ6;simp only [List.getLast?_append,List.getLast?_singleton,Option.some_or,List.dropLast_concat];by_cases e:c w x=0
  ·rw [if_pos e,if_pos e];cases add w x with
   | none=>exact zVV c add l
   | some z=>exact zWB c add l o z
  ·rw [if_neg e,if_neg e];have:=zWB c add l (o++[w]) x;unfold zQ6 at this;rw [this];cases zgx c add x l <;>simp
theorem zbfF {ρ:Type} (c:ρ->ρ->Int) (add:ρ->ρ->Option ρ):∀ l:List ρ,l.foldl (zQ6 c add) (some [])=mrg c add l
 | []=>rfl
 | x::l=>by
  have:=zWB c add l [] x;simp only [List.nil_append] at this;show l.foldl (zQ6 c add) (some [x])=zgx c add x l;rw [this]; cases zgx c add x l <;>rfl
end Go.Proofs.YtoknknbmfmddbaaGreatDoor
/- Relations: values and rows compared, columns, fitting rows: the program and the reference. -/
set_option maxRecDepth 100000
namespace Go.Proofs.YtoknknbmfmddbaaGreatDoor
open Go Go.Ab
def z7s (a b:Value):Int:=zbb (trV a) (trV b)
theorem ref01_Compare_eq' (a b:Value):zjL a b=(true,z7s a b):=zBp a b
theorem z2z (l:yG) (m:Int) (hl:l.length<=zZ):∀ (n i:Nat),l.length<i+n->i<=l.length->∃ r,zFE n l m i=(true,r)/\(r=.inl false\/(r=.inr (l,m)/\∀ x∈l.drop i,x.Text.size<=300))
 | 0,i,h,h2=>by omega
 | n+1,i,h,h2=>by
  show ∃ r,(zFf l m i).ev (λx y=>zFE n x.1 x.2.1 x.2.2.1) (λr=>(true,r)) (false,.inl default)=(true,r)/\_
  unfold zFf;by_cases hi:i<l.length
  ·have hw:i<4611686018427387904:=by
    have:zZ<4611686018427387904:=by decide
    omega
   have hs:decide (((l.getD i default).Text.size:Int)>(300:Int))=decide ((l.getD i default).Text.size>300):=zjp _ 300;simp only [Wy.ev_i,Wy.ev_k,Wy.ev_h,Wy.ev_bn,Wy.ev_d,tT,hi];rw [hs];by_cases h3:(l.getD i default).Text.size>300
   ·rw [decide_eq_true h3];exact ⟨_,rfl,.inl rfl⟩
   ·rw [decide_eq_false h3,cond_false,zw hw];obtain ⟨r,h4,h5⟩:=z2z l m hl n (i+1) (by omega) (by omega)
    refine ⟨r,h4, ?_⟩;rcases h5 with h5 | ⟨h5,h6⟩
    ·exact .inl h5
    ·refine .inr ⟨h5,λx hx=> ?_⟩
     rw [zbg hi] at hx;rcases qd.1 hx with rfl | hx
     ·omega
     ·exact h6 x hx
  ·simp only [Wy.ev_i,Wy.ev_k,Wy.ev_h,Wy.ev_bn,Wy.ev_d,tT,hi];exact ⟨_,rfl,.inr ⟨rfl,λx hx=>by rw [zco hi] at hx; cases hx⟩⟩
theorem zbdM (l:yG) (m:Nat) (hl:l.length<=zZ):∃ b,zxd l m=(true,b)/\(b=true->l.length<=m/\∀ x∈l,x.Text.size<=300):=by
 unfold zxd zSO;obtain ⟨r,h1,h2⟩:=z2z l m hl (l.length+(m:Int).toNat +Int.toNat (0:Int)+(1:Nat)) 0 (by omega) (by omega)
 rw [show ((0:Nat):Int)=(0:Int) from rfl] at h1
 rw [Wy.fin_bn,h1];rcases h2 with rfl | ⟨rfl,h2⟩
 ·exact ⟨false,rfl,λh=>by cases h⟩
 ·refine ⟨decide (l.length<=m), ?_,λh=>⟨of_decide_eq_true h,h2⟩⟩
  show (true,decide (Int.ofNat l.length<=(m:Int)))=_;rw [show decide (Int.ofNat l.length<=(m:Int))=decide (l.length<=m) from zoF _ _]
def zOx (c:Column):Bool:=decide (0<=c.Type_)&&decide (c.Type_<=2)
def zFQ (l:yH):Bool:=decide (l.length<=16)&&l.all zOx
def zJd (k:Int) (b:Value):Bool:=zqI b&&decide (b.Kind=k)
def zoS (l:yH) (row:yG):Bool:=decide (l.length=row.length)&&zdK (λi=>zJd (l.getD i default).Type_ (row.getD i default)) l.length 0
theorem zBH (a b:Nat):decide (Int.ofNat a=Int.ofNat b)=decide (a=b):=by
 by_cases h:a=b
 ·rw [h]; simp
 ·rw [decide_eq_false h,decide_eq_false]; intro e; exact h (Int.ofNat.inj e)
theorem z5a (l:yH) (hl:l.length<=1000000):∀ (n i:Nat),l.length<i+n->i<=l.length->zJN n l i=(true,bif (l.drop i).all zOx then .inr l else .inl false)
 | 0,i,h,h2=>by omega
 | n+1,i,h,h2=>by
  show (zBv l i).ev (zB zBq (.inl default) n) (λr=>(true,r)) (false,.inl default)=_
  unfold zBv;by_cases hi:i<l.length
  ·simp only [Wy.ev_i,Wy.ev_k,Wy.ev_h,Wy.ev_bn,Wy.ev_d,tT,hi];rw [zbg hi,List.all_cons,zw (by omega)]
   have ih:=z5a l hl n (i+1) (by omega) (by omega)
   unfold zOx;by_cases h1:0<=(l.getD i default).Type_
   ·by_cases h2:(l.getD i default).Type_<=2
    ·rw [decide_eq_true h1,decide_eq_true h2,decide_eq_false (show ¬ (l.getD i default).Type_<0 by omega),decide_eq_false (show ¬ (l.getD i default).Type_>2 by omega)]
     exact ih
    ·rw [decide_eq_true h1,decide_eq_false h2,decide_eq_false (show ¬ (l.getD i default).Type_<0 by omega),decide_eq_true (show (l.getD i default).Type_>2 by omega)]
     rfl
   ·rw [decide_eq_false h1,decide_eq_true (show (l.getD i default).Type_<0 by omega)]
    rfl
  ·simp only [Wy.ev_i,Wy.ev_k,Wy.ev_h,Wy.ev_bn,Wy.ev_d,tT,hi,zco hi];rfl
theorem zKp (l:yH) (hl:l.length<=1000000):zsn l=(true,zFQ l):=by
 have h:=z5a l hl (l.length+Int.toNat (0:Int)+(1:Nat)) 0 (by omega) (by omega)
 rw [show ((0:Nat):Int)=(0:Int) from rfl,List.drop_zero] at h
 unfold zsn zM6 zFQ;rw [Wy.fin_bn,h,cond_true];cases l.all zOx with
 | false=>rw [Bool.and_false]; rfl
 | true=>
  rw [Bool.and_true];show (true,decide (Int.ofNat l.length<=(16:Int)))=_;rw [show decide (Int.ofNat l.length<=(16:Int))=decide (l.length<=16) from zoF _ 16]
theorem zHI (l:yH) (row:yG) (hl:l.length<=1000000):zzy l row=(true,zoS l row):=by
 unfold zzy zV9 zoS;rw [Wy.fin_i,zpE,zBH];by_cases he:l.length=row.length
 ·have key:=zcs (W:=zHU) (z:=.inl default) l.length (λi=>(l,row,(i:Int),())) (λ_=>()) (λi=>zJd (l.getD i default).Type_ (row.getD i default)) (.inl false) (.inr ()) (λi hi H K D=>by
    show (zwZ l row i).ev H K D=_;unfold zwZ;have hi':i<row.length:=by omega
    simp only [Wy.ev_i,Wy.ev_k,Wy.ev_h,Wy.ev_bn,Wy.ev_d,tT,hi,hi',zFH,zpE,zJd,zw (show i<4611686018427387904 by omega)]
    cases zqI (row.getD i default) <;>cases decide ((row.getD i default).Kind=(l.getD i default).Type_) <;>rfl) (λH K D=>by
    show (zwZ l row l.length).ev H K D=_;unfold zwZ;simp only [Wy.ev_i,Wy.ev_k,Wy.ev_h,Wy.ev_bn,Wy.ev_d,tT,Nat.lt_irrefl]) (l.length+row.length+Int.toNat (0:Int)+(1:Nat)) (by omega)
  replace key:zS3 (l.length+row.length+Int.toNat (0:Int)+(1:Nat)) l row 0=_:=key;rw [decide_eq_true he,Bool.not_true,cond_false,Wy.fin_bn,key];cases zdK (λi=>zJd (l.getD i default).Type_ (row.getD i default)) l.length 0 <;>rfl
 ·rw [decide_eq_false he]; rfl
theorem zbh0:zbY ⟨default,0⟩=(true,false):=by kernel_rfl
theorem zbhM:zbY ⟨default,1⟩=(true,false):=by kernel_rfl
theorem zbhN:zbY ⟨default,2⟩=(true,false):=by kernel_rfl
theorem zbhT (c:Column):zbY c=(true, !zOx c):=by
 have hc:zbY c=zbY ⟨default,c.Type_⟩:=rfl;rw [hc];unfold zOx;generalize c.Type_=t;by_cases h0:t<0
 ·unfold zbY zoy zqr zBQ;rw [Wy.fin_bn,Wy.fin_i,decide_eq_true h0,decide_eq_false (show ¬ 0<=t by omega)]
  show (true,((ByteArray.mk #[]).toList==(ByteArray.mk #[]).toList))=_;rw [zCv]; rfl
 ·by_cases h2:t>2
  ·unfold zbY zoy zqr zBQ;rw [Wy.fin_bn,Wy.fin_i,Wy.fin_i,decide_eq_false h0,decide_eq_true h2,decide_eq_false (show ¬ t<=2 by omega),Bool.and_false]
   show (true,((ByteArray.mk #[]).toList==(ByteArray.mk #[]).toList))=_;rw [zCv]; rfl
  ·rw [decide_eq_true (show 0<=t by omega),decide_eq_true (show t<=2 by omega)]
   have:t=0\/t=1\/t=2:=by omega
   rcases this with rfl | rfl | rfl
   ·exact zbh0
   ·exact zbhM
   ·exact zbhN
theorem zMJ (l:yH) (hl:l.length<=1000000):zhv l=(true,zFQ l):=by
 have hc:zcr l=(true, !l.all zOx):=by
  unfold zcr zil;have:zdM l=IG (λ(_:Unit) x=>zbY x) (l.length+(Int.ofNat l.length).toNat +Int.toNat (0:Int)+(1000:Nat)) () l:=rfl
  have e:(!l.all zOx)=l.any λc=> !zOx c:=by simp [List.all_eq_not_any_not]
  rw [e];exact zkD (this.trans (zJB _ _ _ _ _ (by omega) (λx _=>zbhT x) (by omega)))
 unfold zhv zzK zFQ;have el:decide (Int.ofNat l.length<=(16:Int))=decide (l.length<=16):=zoF _ 16;rw [Wy.fin_i,Wy.fin_bn,hc,el];cases decide (l.length<=16) <;>cases l.all zOx <;>rfl
def zBF (l:yH) (row:yG) (k:Nat):List pair:=(List.range k).map λi=>pair.mk (l.getD i default) (row.getD i default)
theorem z5g (l:yH) (row:yG) (k:Nat):zBF l row (k+1)=zBF l row k++[pair.mk (l.getD k default) (row.getD k default)]:=by
 unfold zBF; rw [List.range_succ,List.map_append]; rfl
theorem zZm (l:yH) (row:yG) (k:Nat):(zBF l row k).length=k:=by simp [zBF]
theorem z73 (l:yH) (row:yG) (he:l.length=row.length) (hl:l.length<=1000000):∀ (n i:Nat),row.length<i+n->i<=row.length->zC6 n l row row.length i (zBF l row i)=(true,zBF l row row.length)
 | 0,i,h,h2=>by omega
 | n+1,i,h,h2=>by
  show (zDh l row row.length i (zBF l row i)).ev (zB zDO default n) (λr=>(true,r)) (false,default)=_
  unfold zDh;by_cases hi:i<row.length
  ·have hi':i<l.length:=by omega
   simp only [Wy.ev_i,Wy.ev_k,Wy.ev_h,Wy.ev_bn,Wy.ev_d,tT,hi,hi'];rw [decide_eq_true (show ((zBF l row i).length+[pair.mk (l.getD i default) (row.getD i default)].length)*56<=zA from zqD (by rw [zZm]; simp; omega) (by omega)),cond_true,zw (by omega), <- z5g]
   exact z73 l row he hl n (i+1) (by omega) (by omega)
  ·have:i=row.length:=by omega
   subst this;simp only [Wy.ev_i,Wy.ev_k,Wy.ev_h,Wy.ev_bn,Wy.ev_d,tT,Nat.lt_irrefl]
theorem z8s (l:yH) (row:yG) (p:pair->Bool):∀ k,(zBF l row k).all p=zdK (λi=>p (pair.mk (l.getD i default) (row.getD i default))) k 0
 | 0=>rfl
 | k+1=>by
  rw [z5g,List.all_append,z8s l row p k,zWy,Nat.zero_add];simp
theorem z3J (l:yH) (row:yG) (hl:l.length<=1000000):zst l row=(true,zoS l row):=by
 unfold zst zM3 zoS;rw [Wy.fin_i,zf8,zBH];by_cases he:l.length=row.length
 ·have hz:zyw l row=(true,zBF l row row.length):=by
   unfold zyw zQf;have key:∀ n,row.length<n->zC6 n l row (Int.ofNat row.length) 0 []=(true,zBF l row row.length):=λn hn=>z73 l row he hl n 0 (by omega) (by omega)
   rw [Wy.fin_bn,key _ (by omega)]; rfl
  have hc:zb2 (zBF l row row.length)=(true, !(zBF l row row.length).all λp=>zJd p.c.Type_ p.v):=by
   generalize hq:zBF l row row.length=q;have hql:q.length<=1000000:=by rw [<- hq,zZm]; omega
   unfold zb2 zgn;have:zc1 q=IG (λ(_:Unit) x=>zmm x) (q.length+(Int.ofNat q.length).toNat +Int.toNat (0:Int)+(1000:Nat)) () q:=rfl
   have e:(!q.all λp=>zJd p.c.Type_ p.v)=q.any λp=> !zJd p.c.Type_ p.v:=by simp [List.all_eq_not_any_not]
   rw [e]
   exact zkD (this.trans (zJB _ _ _ _ _ (by omega) (λx _=>by
    show zmm x=_;unfold zmm zF3 zJd;simp only [Wy.fin_i,Wy.fin_k,Wy.fin_bn,zzx,cond_true,zpE];cases zqI x.v <;>cases decide (x.v.Kind=x.c.Type_) <;>rfl) (by omega)))
  rw [decide_eq_true he,cond_true,Wy.fin_bn,hz,cond_true,Wy.fin_bn,hc,z8s,he];cases zdK (λi=>zJd (l.getD i default).Type_ (row.getD i default)) row.length 0 <;>rfl
 ·rw [decide_eq_false he]; rfl
def zue (l:yG):List TT:=l.map trV
theorem z9q:∀ {a b:yG},zue a=zue b->a=b
 | [],[],_=>rfl
 | [],_::_,h=>by cases h
 | _::_,[],h=>by cases h
 | x::a,y::b,h=>by
  have h':trV x::zue a=trV y::zue b:=h;injection h' with h1 h2
  rw [z3S h1,z9q h2]
def zt4 (a b:yG):Int:=zbb (.l (zue a)) (.l (zue b))
theorem z87 (a b:yG):zt4 a b=zbr (zue a) (zue b):=by unfold zt4; rw [zbb]
theorem zDA (a b:yG):zt4 b a= - zt4 a b:=zfX _ _
theorem zSA (a b:yG):zt4 a b=0↔a=b:=⟨λh=>z9q (TT.l.inj (zss _ _ h)),λh=>by subst h; exact zCl _⟩
theorem zY5 {x y z:yG} (h1:zt4 x y<=0) (h2:zt4 y z<=0):zt4 x z<=0:=zta _ _ _ h1 h2
theorem zRe (a b:yG) (ha:a.length<=1000000):zpb a b=(true,zt4 a b):=by
 unfold zpb zEV;have e:zb5=CF zjO:=rfl;rw [e,Wy.fin_bn,zPS trV zjO a b ha (λx _ y _=>zBm x y),z87]; rfl
theorem zfh (x y:Row) (hx:x.Values.length<=1000000):zcp x y=(true,zt4 x.Values y.Values):=by
 unfold zcp zGB;rw [Wy.fin_bn,zRe _ _ hx]; rfl
theorem z8M (a b:yG) (ha:a.length<=1000000):∀ (n i:Nat),a.length<i+n->i<=a.length->i<=b.length->
  ∃ r,zv0 n a b i=(true,r)/\((r=.inr (a,b)/\zbr (zue (a.drop i)) (zue (b.drop i))=if a.length=b.length then 0 else if a.length<b.length then -1 else 1)\/r=.inl (zbr (zue (a.drop i)) (zue (b.drop i))))
 | 0,i,h,h2,h3=>by omega
 | n+1,i,h,h2,h3=>by
  show ∃ r,(zvK a b i).ev (λx y=>zv0 n x.1 x.2.1 x.2.2.1) (λr=>(true,r)) (false,.inl default)=(true,r)/\_
  unfold zvK;by_cases hi:i<a.length
  ·by_cases hj:i<b.length
   ·simp only [Wy.ev_i,Wy.ev_k,Wy.ev_h,Wy.ev_bn,Wy.ev_d,tT,hi,hj,ref01_Compare_eq'];rw [zbg hi,zbg hj]
    have ec:zbr (zue (a.getD i default::a.drop (i+1))) (zue (b.getD i default::b.drop (i+1)))=if z7s (a.getD i default) (b.getD i default)=0 then zbr (zue (a.drop (i+1))) (zue (b.drop (i+1))) else z7s (a.getD i default) (b.getD i default):=by
     unfold zue z7s; rw [List.map_cons,List.map_cons,zbr]
    rw [ec,zpE,zw (by omega)]
    by_cases e:z7s (a.getD i default) (b.getD i default)=0
    ·rw [if_pos e,decide_eq_true e,Bool.not_true,cond_false];exact z8M a b ha n (i+1) (by omega) (by omega) (by omega)
    ·rw [if_neg e,decide_eq_false e,Bool.not_false,cond_true];exact ⟨_,rfl,.inr rfl⟩
   ·simp only [Wy.ev_i,Wy.ev_k,Wy.ev_h,Wy.ev_bn,Wy.ev_d,tT,hi,hj];refine ⟨_,rfl,.inl ⟨rfl, ?_⟩⟩;rw [zbg hi,zco hj,if_neg (by omega),if_neg (by omega)]
    unfold zue; rw [List.map_cons,List.map_nil,zbr]
  ·simp only [Wy.ev_i,Wy.ev_k,Wy.ev_h,Wy.ev_bn,Wy.ev_d,tT,hi];refine ⟨_,rfl,.inl ⟨rfl, ?_⟩⟩;rw [zco hi];by_cases hj:i<b.length
   ·rw [zbg hj,if_neg (by omega),if_pos (by omega)]
    unfold zue; rw [List.map_cons,List.map_nil,zbr]
   ·rw [zco hj,if_pos (by omega)]
    unfold zue; rw [List.map_nil,zbr]
theorem zvS (a b:yG) (ha:a.length<=1000000):zi0 a b=(true,zt4 a b):=by
 obtain ⟨r,h1,h2⟩:=z8M a b ha (a.length+b.length+Int.toNat (0:Int)+(1:Nat)) 0 (by omega) (by omega) (by omega)
 rw [show ((0:Nat):Int)=(0:Int) from rfl] at h1
 rw [List.drop_zero,List.drop_zero, <- z87] at h2;unfold zi0 zEQ;rw [Wy.fin_bn,h1,cond_true];have hs:∀ b:Bool,zs9 b=(true,bif b then -1 else 1):=λb=>by cases b <;>rfl
 rcases h2 with ⟨rfl,h2⟩ | rfl
 ·have hb:(Int.ofNat a.length==Int.ofNat b.length)=decide (a.length=b.length):=by rw [zf8,zBH]
  have hl':decide (Int.ofNat a.length<Int.ofNat b.length)=decide (a.length<b.length):=by simp
  simp only [Wy.fin_i,Wy.fin_k,Wy.fin_bn,isL,getR,cond_false,hb,hs,cond_true];rw [h2];by_cases e:a.length=b.length
  ·rw [decide_eq_true e,if_pos e]; rfl
  ·rw [decide_eq_false e,if_neg e,cond_false];by_cases e2:a.length<b.length
   ·rw [if_pos e2];show (true,bif decide (Int.ofNat a.length<Int.ofNat b.length) then (-1:Int) else 1)=_
    rw [hl',decide_eq_true e2]; rfl
   ·rw [if_neg e2];show (true,bif decide (Int.ofNat a.length<Int.ofNat b.length) then (-1:Int) else 1)=_
    rw [hl',decide_eq_false e2]; rfl
 ·rfl
theorem zS7 (a b:yG) (ha:a.length<=1000000):zzC a b=(true,decide (a=b)):=by
 unfold zzC zVE;rw [Wy.fin_bn,zvS a b ha,cond_true,Wy.fin_k,zf8];congr 1;rw [decide_eq_decide]; exact zSA a b
end Go.Proofs.YtoknknbmfmddbaaGreatDoor
end
