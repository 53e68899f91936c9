/- Texts of this claim, joined (the program, its functions in plain words, and what they compute). -/
import Derived.Test.YtoknknbmfmddbaaGreatDoorGC6
set_option autoImplicit false
set_option linter.unusedVariables false
set_option linter.unusedSectionVars false
set_option linter.unusedSimpArgs false
set_option maxRecDepth 1000000
set_option maxHeartbeats 0
/- The program's comparison of annotations is the order of trees. -/
noncomputable section
namespace Go.Proofs.YtoknknbmfmddbaaGreatDoor
open Go Go.Ab
theorem zwF (x y:Int):zeb x y=(true,zdK x y):=by
 unfold zeb zF7 zql zKP zdK;by_cases h1:x<y
 ·simp [h1,Wy.fin_i,Wy.fin_k]
 ·by_cases h2:y<x <;>simp [h1,h2,Wy.fin_i,Wy.fin_k]
theorem zBQ (x y:Int):zh9 x y=(true,zdK x y):=by
 unfold zh9 zCg zmm zGn zdK;by_cases h1:x<y
 ·simp [h1,Wy.fin_i,Wy.fin_k]
 ·by_cases h2:y<x <;>simp [h1,h2,Wy.fin_i,Wy.fin_k]
def zsE:List Int->Int
 | []=>0
 | x::r=>if x=0 then zsE r else x
theorem z6L (l:List Int) (hl:l.length<=1000000):∀ (n i:Nat),l.length<i+n->i<=l.length->∃ r,zFu n 0 l l.length i=(true,r)/\(r=.inl (zsE (l.drop i))\/(r=.inr 0/\zsE (l.drop i)=0))
 | 0,i,h,h2=>by omega
 | n+1,i,h,h2=>by
  show ∃ r,(zFO 0 l l.length i).ev (λx y=>zFu n x.1 x.2.1 x.2.2.1 x.2.2.2.1) (λr=>(true,r)) (false,.inl default)=(true,r)/\_
  unfold zFO;by_cases hi:i<l.length
  ·simp only [Wy.ev_i,Wy.ev_k,Wy.ev_h,Int.ofNat_eq_natCast,zIo,zuW,decide_true,decide_false,Bool.and_self,Bool.true_and,Bool.and_true,cond_true,cond_false,Int.toNat_natCast,Bool.not_true,Bool.not_false,hi];obtain ⟨r,h1,h3⟩:=z6L l hl n (i+1) (by omega) (by omega)
   rw [zbH hi,zX (by omega),h1]
   generalize l.getD i default=x;by_cases hx:x=0
   ·have e:(x != 0)=false:=by simp [hx]
    simp only [e,cond_false,zsE,hx,if_true];exact ⟨r,rfl,h3⟩
   ·have e:(x != 0)=true:=by simp [hx]
    simp only [e,cond_true,zsE,hx,if_false];exact ⟨_,rfl,.inl rfl⟩
  ·simp only [Wy.ev_i,Wy.ev_k,Wy.ev_h,Int.ofNat_eq_natCast,zIo,zuW,decide_true,decide_false,Bool.and_self,Bool.true_and,Bool.and_true,cond_true,cond_false,Int.toNat_natCast,Bool.not_true,Bool.not_false,hi,zdn hi];exact ⟨_,rfl,.inr ⟨rfl,rfl⟩⟩
theorem zue (l:List Int) (hl:l.length<=1000000):zny l=(true,zsE l):=by
 unfold zny zTj;obtain ⟨r,h1,h2⟩:=z6L l hl (Int.toNat 0+l.length+(Int.ofNat l.length).toNat +Int.toNat 0+1) 0 (by simp; omega) (by omega)
 rw [show ((0:Nat):Int)=(0:Int) from rfl] at h1
 rw [Wy.fin_bn,show Int.ofNat l.length=(l.length:Int) from rfl] at *
 rw [h1];rw [List.drop_zero] at h2;rcases h2 with rfl | ⟨rfl,h2⟩
 ·rfl
 ·rw [h2]; rfl
section
variable {α:Type}
def zvf (c:α->α->Int):List α->List α->Int
 | [],[]=>0
 | [],_::_=> -1
 | _::_,[]=>1
 | x::a,y::b=>if c x y=0 then zvf c a b else c x y
theorem zKj (e:α->TT) {c:α->α->Int}:∀ (a b:List α),(∀ x∈a,∀ y∈b,c x y=zbF (e x) (e y))->zvf c a b=zbo (a.map e) (b.map e)
 | [],[],_=>by simp only [zvf,List.map,zbo]
 | [],_::_,_=>by simp only [zvf,List.map,zbo]
 | _::_,[],_=>by simp only [zvf,List.map,zbo]
 | x::a,y::b,h=>by
  simp only [zvf,List.map,zbo];rw [h x (by simp) y (by simp),zKj e a b λx hx y hy=>h x (by simp [hx]) y (by simp [hy])]
variable [Inhabited α]
def z3J (g:α->α->Bool×Int) (s1:List α) (s2:List α) (t11:List α) (t12:Int) (t13:Int):Wy (List α×List α×Unit×List α×Int×Int×Unit) Unit (Int⊕(List α×List α)):=.i (decide (t13<t12)) (.i (decide ((0:Int)<=t13)&&decide (t13<Int.ofNat t11.length)) (.i (decide (t13≥Int.ofNat s2.length)) (.k (.inl (1:Int))) (.i (decide ((0:Int)<=t13)&&decide (t13<Int.ofNat s2.length)) (.bn (g (t11.getD t13.toNat default) (s2.getD t13.toNat default)) λr0=>.i (r0 != (0:Int)) (.k (.inl (r0))) (.h (s1,s2,(),t11,t12,(IntKind.i64.wrap (t13+(1:Int))),()) ())) .d)) .d) (.k (.inr (s1,s2)))
def z7Q (g:α->α->Bool×Int) (x:List α×List α×Unit×List α×Int×Int×Unit) (y:Unit):Wy (List α×List α×Unit×List α×Int×Int×Unit) Unit (Int⊕(List α×List α)):=z3J g x.1 x.2.1 x.2.2.2.1 x.2.2.2.2.1 x.2.2.2.2.2.1
def z7Z (g:α->α->Bool×Int) (n:Nat) (s1:List α) (s2:List α) (t11:List α) (t12:Int) (t13:Int):Bool×(Int⊕(List α×List α)):=zB (z7Q g) (.inl default) n (s1,s2,(),t11,t12,t13,()) ()
def CF (g:α->α->Bool×Int) (s1 s2:List α):Bool×Int:=(.bn (z7Z g (s1.length+s2.length+s1.length+(Int.ofNat s1.length).toNat +Int.toNat (0:Int)+(1:Nat)) s1 s2 s1 (Int.ofNat s1.length) (0:Int)) λr2=>.i (isL r2) (.k (getL r2)) (.i (decide (Int.ofNat (getR r2).fst.length<Int.ofNat (getR r2).snd.length)) (.k (-1:Int)) (.k (0:Int))):Wy0 Int).fin default
theorem z6p (g:α->α->Bool×Int) (c:α->α->Int) (a b:List α) (ha:a.length<=1000000) (hg:∀ x∈a,∀ y∈b,g x y=(true,c x y)):∀ (n i:Nat),a.length<i+n->i<=a.length->i<=b.length->
  ∃ r,z7Z g n a b a a.length i=(true,r)/\((r=.inl (zvf c (a.drop i) (b.drop i)))\/(r=.inr (a,b)/\zvf c (a.drop i) (b.drop i)=if a.length<b.length then -1 else 0))
 | 0,i,h,h2,h3=>by omega
 | n+1,i,h,h2,h3=>by
  show ∃ r,(z3J g a b a a.length i).ev (λx y=>z7Z g n x.1 x.2.1 x.2.2.2.1 x.2.2.2.2.1 x.2.2.2.2.2.1) (λr=>(true,r)) (false,.inl default)=(true,r)/\_
  unfold z3J;by_cases hi:i<a.length
  ·by_cases hi':i<b.length
   ·have hg':¬ b.length<=i:=by omega
    simp only [Wy.ev_i,Wy.ev_k,Wy.ev_h,Wy.ev_bn,Wy.ev_d,Int.ofNat_eq_natCast,zIo,zuW,decide_true,decide_false,Bool.and_self,Bool.true_and,Bool.and_true,cond_true,cond_false,Int.toNat_natCast,Bool.not_true,Bool.not_false,hi,hi',z87,hg',hg _ (zL hi) _ (zL hi')];rw [zbH hi,zbH hi',zX (by omega)]
    simp only [zvf];generalize c (a.getD i default) (b.getD i default)=z;by_cases hx:z=0
    ·have e:(z != 0)=false:=by simp [hx]
     simp only [e,cond_false,hx,if_true];exact z6p g c a b ha hg n (i+1) (by omega) (by omega) (by omega)
    ·have e:(z != 0)=true:=by simp [hx]
     simp only [e,cond_true,hx,if_false];exact ⟨_,rfl,.inl rfl⟩
   ·have hg':b.length<=i:=by omega
    simp only [Wy.ev_i,Wy.ev_k,Wy.ev_h,Wy.ev_bn,Wy.ev_d,Int.ofNat_eq_natCast,zIo,zuW,decide_true,decide_false,Bool.and_self,Bool.true_and,Bool.and_true,cond_true,cond_false,Int.toNat_natCast,Bool.not_true,Bool.not_false,hi,z87,hg'];refine ⟨_,rfl,.inl ?_⟩;rw [zbH hi,zdn hi']; rfl
  ·simp only [Wy.ev_i,Wy.ev_k,Wy.ev_h,Wy.ev_bn,Wy.ev_d,Int.ofNat_eq_natCast,zIo,zuW,decide_true,decide_false,Bool.and_self,Bool.true_and,Bool.and_true,cond_true,cond_false,Int.toNat_natCast,Bool.not_true,Bool.not_false,hi];refine ⟨_,rfl,.inr ⟨rfl, ?_⟩⟩;rw [zdn hi];by_cases hi':i<b.length
   ·rw [zbH hi',if_pos (by omega)]; rfl
   ·rw [zdn hi',if_neg (by omega)]; rfl
theorem zbdg (g:α->α->Bool×Int) (c:α->α->Int) (a b:List α) (ha:a.length<=1000000) (hg:∀ x∈a,∀ y∈b,g x y=(true,c x y)):CF g a b=(true,zvf c a b):=by
 unfold CF;obtain ⟨r,h1,h2⟩:=z6p g c a b ha hg (a.length+b.length+a.length+(Int.ofNat a.length).toNat +Int.toNat 0+1) 0 (by simp; omega) (by omega) (by omega)
 rw [show ((0:Nat):Int)=(0:Int) from rfl] at h1
 rw [Wy.fin_bn,show Int.ofNat a.length=(a.length:Int) from rfl] at *
 rw [h1];simp only [List.drop_zero] at h2;rcases h2 with rfl | ⟨rfl,h2⟩
 ·rfl
 ·rw [h2];simp only [Wy.fin_i,Wy.fin_k,Int.ofNat_eq_natCast,zIo,zuW,decide_true,decide_false,Bool.and_self,Bool.true_and,Bool.and_true,cond_true,cond_false,Int.toNat_natCast,Bool.not_true,Bool.not_false,isL,getR];by_cases h3:a.length<b.length <;>simp [h3]
end
theorem zMI {α:Type} [Inhabited α] (e:α->TT) (g:α->α->Bool×Int) (a b:List α) (ha:a.length<=1000000) (hg:∀ x∈a,∀ y∈b,g x y=(true,zbF (e x) (e y))):CF g a b=(true,zbo (a.map e) (b.map e)):=by
 rw [zbdg g (λx y=>zbF (e x) (e y)) a b ha hg,zKj e a b λ_ _ _ _=>rfl]
theorem Fc.eta2 (x:Fc):(FO.mk (At.mk x.At.Kind x.At.Row x.At.Ag x.At.Func x.At.Items x.At.Op x.At.Bd) x.Exp:Fc)=x:=by rw [At.eta]
theorem z9f (g):zbM g=CF g:=rfl
theorem z74 (g):zbm g=CF g:=by
 have h:zbI g=z7Q g:=by
  funext x y
  unfold zbI zdv z7Q z3J;rw [Fc.eta2,Fc.eta2]
 funext a b
 unfold zbm zdz zdu;rw [h]; rfl
theorem zbaM (g):zbf g=CF g:=rfl
theorem z9o (g):zbB g=CF g:=rfl
theorem zzr (a b:Value):ziF a b=(true,zbF (trV a) (trV b)):=by
 unfold ziF zKk;have h:(strings_Compare a.Text b.Text).2=zbF (trB a.Text) (trB b.Text):=by rw [<- z6q]; rfl
 simp only [zwF,zBQ,Wy.fin_bn,cond_true,h];rw [zue _ (by simp)]
 simp only [Wy.fin_k,cond_true,trV,zbF,zbo,zsE];rfl
theorem zML:∀ n,
  (∀ d a b,zG d a->10*d<=n->zfv n a b=(true,zbo (zc1 a) (zc1 b)))/\
  (∀ d a b,zG d a->10*d<=n+1->zbL n a b=(true,zbo (zc1 a) (zc1 b)))/\
  (∀ d x y,zhf (zG d) x.Fs->10*d+10<=n+2->zhV n x y=(true,zbF (zwO x) (zwO y)))/\
  (∀ d x y,zhf (zG d) x.Fs->10*d+10<=n+3->zgu n x y=(true,zbo (zbT x.Fs) (zbT y.Fs)))/\
  (∀ d l l',zhf (zG d) l->10*d+10<=n+4->zbQ n l l'=(true,zbo (zbT l) (zbT l')))/\
  (∀ d x y,zd2 (zG d) x.At->10*d+10<=n+5->zfp n x y=(true,zbF (zpk x) (zpk y)))/\
  (∀ d x y,zd2 (zG d) x->10*d+10<=n+6->zgr n x y=(true,zbF (zeC x) (zeC y)))/\
  (∀ d a b,a.length<=1000000->(∀ x∈a,zG d x)->10*d+10<=n+7->zbg n a b=(true,zbo (zuo a) (zuo b)))/\
  (∀ d a b,a.length<=1000000->(∀ x∈a,zG d x.Ann)->10*d+10<=n+7->zbE n a b=(true,zbo (zgM a) (zgM b)))/\
  (∀ d x y,zG d x.Ann->10*d+10<=n+8->zev n x y=(true,zbF (zfI x) (zfI y)))
 | 0=>by
  refine ⟨?_, ?_, ?_, ?_, ?_, ?_, ?_, ?_, ?_, ?_⟩
  ·intro d a b h hd; have:d=0:=by omega
   subst this; exact h.elim
  ·intro d a b h hd; have:d=0:=by omega
   subst this; exact h.elim
  all_goals (intros; omega)
 | n+1=>by
  obtain ⟨h1,h2,h3,h4,h5,h6,h7,h8,h9,h10⟩:=zML n;refine ⟨?_, ?_, ?_, ?_, ?_, ?_, ?_, ?_, ?_, ?_⟩
  ·intro d a b h hd;rw [zJY];unfold znv zyh;rw [Wy.fin_bn,h2 d a b h (by omega)]; rfl
  ·intro d a b h hd;cases d with
   | zero=>exact h.elim
   | succ d=>
    rw [zhk,z9f,zEx,zEx];exact zMI zwO _ a b h.1 λx hx y hy=>h3 d x y (h.2 x hx) (by omega)
  ·intro d x y h hd;rw [zFH];unfold zkq zvK;rw [Wy.fin_bn,h4 d x y h (by omega)]
   simp only [cond_true,Wy.fin_bn,zBQ];rw [zue _ (by simp)]
   obtain ⟨c,l⟩:=x; obtain ⟨c',l'⟩:=y;simp only [cond_true,Wy.fin_k,zsE,zwO,zbF,zbo];rfl
  ·intro d x y h hd;rw [zC7];unfold zi3 zs3;rw [Wy.fin_bn,h5 d _ _ h (by omega)]; rfl
  ·intro d l l' h hd;rw [zhL,z74,zuO,zuO];exact zMI zpk _ l l' h.1 λx hx y hy=>h6 d x y (h.2 x hx) (by omega)
  ·intro d x y h hd;rw [zBt];unfold zii zrI;rw [At.eta,At.eta,Wy.fin_bn,h7 d _ _ h (by omega)]
   simp only [cond_true,Wy.fin_bn,zwF];rw [zue _ (by simp)]
   obtain ⟨c,l⟩:=x; obtain ⟨c',l'⟩:=y;simp only [cond_true,Wy.fin_k,zsE,zpk,zbF,zbo];rfl
  ·intro d x y h hd;rw [zC4];unfold zi5 zs8;simp only [cond_true,Wy.fin_bn,zwF,zzr,h8 d x.Ag y.Ag h.1.1 h.2.1 (by omega),h9 d x.Items y.Items h.1.2.1 (λw hw=>(h.2.2 w hw).2) (by omega)]
   rw [zue _ (by simp)]
   obtain ⟨k,r,a,f,i,o,v⟩:=x; obtain ⟨k',r',a',f',i',o',v'⟩:=y;simp only [cond_true,Wy.fin_k,zsE,zeC,zbF,zbo];rfl
  ·intro d a b h0 h hd;rw [zeO,zbaM,zAI,zAI];exact zMI (λx=>TT.l (zc1 x)) _ a b h0 λx hx y hy=>by rw [h1 d x y (h x hx) (by omega)]; simp only [zbF]
  ·intro d a b h0 h hd;rw [zf1,z9o,zrB,zrB];exact zMI zfI _ a b h0 λx hx y hy=>h10 d x y (h x hx) (by omega)
  ·intro d x y h hd;rw [zCY];unfold zjd zte;simp only [cond_true,Wy.fin_bn,zzr,h1 d _ _ h (by omega)]
   rw [zue _ (by simp)]
   obtain ⟨c,l⟩:=x; obtain ⟨c',l'⟩:=y;simp only [cond_true,Wy.fin_k,zsE,zfI,zbF,zbo];rfl
theorem zMo {d:Nat} {a:yB} (h:zG d a) (hd:d<=100) (b:yB):zwV a b=(true,zbo (zc1 a) (zc1 b)):=(zML 1000).1 d a b h (by omega)
theorem zE0 {d:Nat} {x:Term} (h:zhf (zG d) x.Fs) (hd:d<=99) (y:Term):zcf x y=(true,zbo (zbT x.Fs) (zbT y.Fs)):=(zML 1000).2.2.2.1 d x y h (by omega)
theorem zFD {d:Nat} {x:At} (h:zd2 (zG d) x) (hd:d<=99) (y:At):zhS x y=(true,zbF (zeC x) (zeC y)):=(zML 1000).2.2.2.2.2.2.1 d x y h (by omega)
theorem zEW {d:Nat} {x:Wd} (h:zG d x.Ann) (hd:d<=99) (y:Wd):zbp x y=(true,zbF (zfI x) (zfI y)):=(zML 1000).2.2.2.2.2.2.2.2.2 d x y h (by omega)
theorem zCw {d:Nat} {a:yB} (h:zG d a) (hd:d<=100) (b:yB):zfz a b=(true,decide (a=b)):=by
 unfold zfz zDC;rw [Wy.fin_bn,zMo h hd];simp only [cond_true,Wy.fin_k];congr 1;by_cases e:a=b
 ·subst e; rw [zUe]; simp
 ·have:zbo (zc1 a) (zc1 b)≠0:=λh=>e (zDH _ _ (zHr _ _ h))
  simp [e,this]
theorem zWM (s:ByteArray):∀ (n i:Nat) (r:List UInt8),s.size<=i+n->ByteArray.toList.loop s i r=r.reverse++s.data.toList.drop i
 | 0,i,r,h=>by
  rw [ByteArray.toList.loop,if_neg (by omega),List.drop_eq_nil_of_le (by rw [<- Lib.size_eq]; omega),List.append_nil]
 | n+1,i,r,h=>by
  rw [ByteArray.toList.loop];by_cases hi:i<s.size
  ·have hi':i<s.data.toList.length:=by rw [<- Lib.size_eq]; exact hi
   rw [if_pos hi,zWM s n (i+1) _ (by omega),List.drop_eq_getElem_cons hi',List.reverse_cons,List.append_assoc]
   congr 1
   have:s.get! i=s.data.toList[i]:=by
    have h':i<s.data.size:=hi;show s.data[i]! =s.data.toList[i];rw [getElem!_pos s.data i h']; rfl
   rw [this]; rfl
  ·rw [if_neg hi,List.drop_eq_nil_of_le (by rw [<- Lib.size_eq]; omega),List.append_nil]
theorem toList_eq (s:ByteArray):s.toList=s.data.toList:=by
 rw [ByteArray.toList,zWM s s.size 0 [] (by omega)]; rfl
theorem zwS {s t:ByteArray} (h:s.data.toList=t.data.toList):s=t:=by
 cases s; cases t;congr 1;exact Array.toList_inj.1 h
theorem z7f (s t:ByteArray):(s.toList==t.toList)=decide (s.data.toList=t.data.toList):=by
 rw [toList_eq,toList_eq];cases hb:(s.data.toList==t.data.toList) with
 | true=>rw [decide_eq_true (beq_iff_eq.1 hb)]
 | false=>rw [decide_eq_false (λh=>by rw [beq_iff_eq.2 h] at hb; cases hb)]
theorem zwR (s t:ByteArray):(s.toList==t.toList)=decide (s=t):=by
 rw [z7f];by_cases h:s=t
 ·rw [decide_eq_true h,decide_eq_true (by rw [h])]
 ·rw [decide_eq_false h,decide_eq_false λe=>h (zwS e)]
theorem zrA (z w:Int):(z != w)= !decide (z=w):=by by_cases h:z=w <;>simp [h]
theorem zQh:∀ a b:List UInt8,Op.bytesLess a b=decide (Lib.compareBytes a b<0)
 | [],[]=>by simp [Op.bytesLess,Lib.compareBytes]
 | _::_,[]=>by simp [Op.bytesLess,Lib.compareBytes]
 | [],_::_=>by simp [Op.bytesLess,Lib.compareBytes]
 | x::a,y::b=>by
  simp only [Op.bytesLess,Lib.compareBytes];by_cases p:x<y
  ·simp [p]
  ·by_cases q:y<x
   ·have hne:¬ x=y:=λe=>by subst e; exact p q
    simp [p,q,hne]
   ·have he:x=y:=UInt8.toNat_inj.1 (by rw [UInt8.lt_iff_toNat_lt] at p q; omega)
    subst he;simp [p,zQh a b]
theorem zzk (a b:Value):ziE a b=(true,zbF (trV a) (trV b)):=by
 unfold ziE zKg zq9 zSE;rw [zwR,toList_eq,toList_eq,zQh,z6q];simp only [trV,zbF,zbo,zdK];simp only [Wy.fin_i,Wy.fin_bn,Wy.fin_k,cond_true,zrA];by_cases h1:a.Kind=b.Kind
 ·by_cases h2:a.Int=b.Int
  ·by_cases h3:a.Text=b.Text
   ·simp [h1,h2,h3,zSo]
   ·have h4:zbF (trB a.Text) (trB b.Text)≠0:=λe=>by
     have:=zFR _ _ (TT.l.inj (zzx _ _ e));exact h3 (zwS this)
    have h5:=z5v (trB a.Text) (trB b.Text);simp only [trB,zbF] at h4 h5;simp only [trB,zbF];rcases h5 with h5 | h5 | h5
    ·simp [h1,h2,h3,h5]
    ·exact absurd h5 h4
    ·simp [h1,h2,h3,h5]
  ·by_cases h3:a.Int<b.Int
   ·simp [h1,h2,h3]
   ·simp [h1,h2,h3,show b.Int<a.Int by omega]
 ·by_cases h3:a.Kind<b.Kind
  ·simp [h1,h3]
  ·simp [h1,h3,show b.Kind<a.Kind by omega]
theorem zq8 (x y:Int):zcI x y=(true,zdK x y):=by
 unfold zcI zMW zdK;by_cases h1:x<y
 ·simp [h1,Wy.fin_i,Wy.fin_k]
 ·by_cases h2:y<x <;>simp [h1,h2,Wy.fin_i,Wy.fin_k]
theorem zQV (x y:RowID):zoI x y=(true,if zdK x.Table y.Table=0 then zdK x.Seq y.Seq else zdK x.Table y.Table):=by
 unfold zoI zEQ;simp only [zq8,Wy.fin_i,Wy.fin_bn,Wy.fin_k,cond_true,zrA];by_cases h:zdK x.Table y.Table=0
 ·simp [h]
 ·simp [h]
section
variable {α:Type} [Inhabited α]
def z3O (p q:α->α->Bool×Int) (a:List α) (b:List α) (i:Int):Wy (List α×List α×Int×Unit) Unit (Int⊕(List α×List α)):=.i (decide (i<Int.ofNat a.length)) (.i (decide (i<Int.ofNat b.length)) (.i (decide ((0:Int)<=i)&&decide (i<Int.ofNat a.length)) (.i (decide ((0:Int)<=i)&&decide (i<Int.ofNat b.length)) (.bn (p (a.getD i.toNat default) (b.getD i.toNat default)) λr1=>.i (r1 != (0:Int)) (.k (.inl (r1))) (.i (decide ((0:Int)<=i)&&decide (i<Int.ofNat a.length)) (.i (decide ((0:Int)<=i)&&decide (i<Int.ofNat b.length)) (.bn (q (a.getD i.toNat default) (b.getD i.toNat default)) λr0=>.i (r0 != (0:Int)) (.k (.inl (r0))) (.h (a,b,(IntKind.i64.wrap (i+(1:Int))),()) ())) .d) .d)) .d) .d) (.k (.inr (a,b)))) (.k (.inr (a,b)))
def z7w (p q:α->α->Bool×Int) (x:List α×List α×Int×Unit) (y:Unit):Wy (List α×List α×Int×Unit) Unit (Int⊕(List α×List α)):=z3O p q x.1 x.2.1 x.2.2.1
def z7u (p q:α->α->Bool×Int) (n:Nat) (a:List α) (b:List α) (i:Int):Bool×(Int⊕(List α×List α)):=zB (z7w p q) (.inl default) n (a,b,i,()) ()
def RG (p q:α->α->Bool×Int) (a b:List α):Bool×Int:=(.bn (z7u p q (a.length+b.length+Int.toNat (0:Int)+(1:Nat)) a b (0:Int)) λr5=>.i (isL r5) (.k (getL r5)) (.bn (zcI (Int.ofNat (getR r5).fst.length) (Int.ofNat (getR r5).snd.length)) λr4=>.k r4):Wy0 Int).fin default
theorem z6r (p q:α->α->Bool×Int) (c1 c2:α->α->Int) (a b:List α) (ha:a.length<=1000000) (hp:∀ x∈a,∀ y∈b,p x y=(true,c1 x y)) (hq:∀ x∈a,∀ y∈b,q x y=(true,c2 x y)):∀ (n i:Nat),a.length<i+n->i<=a.length->i<=b.length->
  ∃ r,z7u p q n a b i=(true,r)/\((r=.inl (zvf (λx y=>if c1 x y=0 then c2 x y else c1 x y) (a.drop i) (b.drop i)))\/(r=.inr (a,b)/\zvf (λx y=>if c1 x y=0 then c2 x y else c1 x y) (a.drop i) (b.drop i)=zdK a.length b.length))
 | 0,i,h,h2,h3=>by omega
 | n+1,i,h,h2,h3=>by
  show ∃ r,(z3O p q a b i).ev (λx y=>z7u p q n x.1 x.2.1 x.2.2.1) (λr=>(true,r)) (false,.inl default)=(true,r)/\_
  unfold z3O;by_cases hi:i<a.length
  ·by_cases hi':i<b.length
   ·simp only [Wy.ev_i,Wy.ev_k,Wy.ev_h,Wy.ev_bn,Wy.ev_d,tT,hi,hi',hp _ (zL hi) _ (zL hi'),hq _ (zL hi) _ (zL hi')];rw [zbH hi,zbH hi',zX (by omega)]
    simp only [zvf];generalize c1 (a.getD i default) (b.getD i default)=z1;generalize c2 (a.getD i default) (b.getD i default)=z2;by_cases hx:z1=0
    ·have e:(z1 != 0)=false:=by simp [hx]
     by_cases hx2:z2=0
     ·have e2:(z2 != 0)=false:=by simp [hx2]
      simp only [e,e2,cond_false,hx,hx2,if_true];exact z6r p q c1 c2 a b ha hp hq n (i+1) (by omega) (by omega) (by omega)
     ·have e2:(z2 != 0)=true:=by simp [hx2]
      simp only [e,e2,cond_false,cond_true,hx,hx2,if_true,if_false];exact ⟨_,rfl,.inl rfl⟩
    ·have e:(z1 != 0)=true:=by simp [hx]
     simp only [e,cond_true,hx,if_false];exact ⟨_,rfl,.inl rfl⟩
   ·simp only [Wy.ev_i,Wy.ev_k,Wy.ev_h,Wy.ev_bn,Wy.ev_d,tT,hi,hi'];refine ⟨_,rfl,.inr ⟨rfl, ?_⟩⟩;rw [zbH hi,zdn hi'];unfold zdK; rw [if_neg (by omega),if_pos (by omega)]; rfl
  ·simp only [Wy.ev_i,Wy.ev_k,Wy.ev_h,Wy.ev_bn,Wy.ev_d,tT,hi];refine ⟨_,rfl,.inr ⟨rfl, ?_⟩⟩;rw [zdn hi];by_cases hi':i<b.length
   ·rw [zbH hi']; unfold zdK; rw [if_pos (by omega)]; rfl
   ·rw [zdn hi']; unfold zdK; rw [if_neg (by omega),if_neg (by omega)]; rfl
theorem zbdF (p q:α->α->Bool×Int) (c1 c2:α->α->Int) (a b:List α) (ha:a.length<=1000000) (hp:∀ x∈a,∀ y∈b,p x y=(true,c1 x y)) (hq:∀ x∈a,∀ y∈b,q x y=(true,c2 x y)):RG p q a b=(true,zvf (λx y=>if c1 x y=0 then c2 x y else c1 x y) a b):=by
 unfold RG;obtain ⟨r,h1,h2⟩:=z6r p q c1 c2 a b ha hp hq (a.length+b.length+Int.toNat 0+1) 0 (by simp; omega) (by omega) (by omega)
 rw [show ((0:Nat):Int)=(0:Int) from rfl] at h1
 rw [Wy.fin_bn,h1];simp only [List.drop_zero] at h2;rcases h2 with rfl | ⟨rfl,h2⟩
 ·rfl
 ·rw [h2];simp only [Wy.fin_i,Wy.fin_k,Wy.fin_bn,zq8,tT,isL,getR]
end
theorem z1X {α:Type} [Inhabited α] (e:α->TT) (p q:α->α->Bool×Int) (c1 c2:α->α->Int) (a b:List α) (ha:a.length<=1000000) (hp:∀ x∈a,∀ y∈b,p x y=(true,c1 x y)) (hq:∀ x∈a,∀ y∈b,q x y=(true,c2 x y))
  (hc:∀ x y,(if c1 x y=0 then c2 x y else c1 x y)=zbF (e x) (e y)):RG p q a b=(true,zbo (a.map e) (b.map e)):=by
 rw [zbdF p q c1 c2 a b ha hp hq,zKj e a b λx _ y _=>hc x y]
theorem zbal (g):zvL g=RG (λx y=>g x.Fs y.Fs) (λx y=>zcI x.Cf y.Cf):=rfl
theorem z7M (g):ziA g=RG (λx y=>g x.At y.At) (λx y=>zcI x.Exp y.Exp):=by
 have h:zi7 g=z7w (λx y=>g x.At y.At) (λx y=>zcI x.Exp y.Exp):=by
  funext x y
  unfold zi7 zvO z7w z3O;rw [At.eta,At.eta]
 funext a b
 unfold ziA zwU zvF;rw [h]; rfl
theorem z9Z (g):znD g=RG (λx y=>ziE x.Value y.Value) (λx y=>g x.Ann y.Ann):=rfl
theorem z2w (gI) (g:yB->yB->Bool×Int) (a b:At) (ha:a.Ag.length<=1000000) (hg:∀ x∈a.Ag,∀ y∈b.Ag,g x y=(true,zbo (zc1 x) (zc1 y))):∀ (n i:Nat),a.Ag.length<i+n->i<=a.Ag.length->i<=b.Ag.length->
  ∃ r,zrs g gI n i a b=(true,r)/\((r=.inl (zvf (λx y=>zbo (zc1 x) (zc1 y)) (a.Ag.drop i) (b.Ag.drop i))/\zvf (λx y=>zbo (zc1 x) (zc1 y)) (a.Ag.drop i) (b.Ag.drop i)≠0)\/(r=.inr (a,b)/\zvf (λx y=>zbo (zc1 x) (zc1 y)) (a.Ag.drop i) (b.Ag.drop i)=zdK a.Ag.length b.Ag.length))
 | 0,i,h,h2,h3=>by omega
 | n+1,i,h,h2,h3=>by
  show ∃ r,(zrz g gI i a b).ev (λx y=>zrs g gI n x.2.2.1 y.1 y.2.1) (λr=>(true,r)) (false,.inl default)=(true,r)/\_
  unfold zrz;by_cases hi:i<a.Ag.length
  ·by_cases hi':i<b.Ag.length
   ·simp only [Wy.ev_i,Wy.ev_k,Wy.ev_h,Wy.ev_bn,Wy.ev_d,tT,hi,hi',hg _ (zL hi) _ (zL hi')];rw [zbH hi,zbH hi',zX (by omega)]
    simp only [zvf];generalize zbo (zc1 (a.Ag.getD i default)) (zc1 (b.Ag.getD i default))=z1;by_cases hx:z1=0
    ·have e:(z1 != 0)=false:=by simp [hx]
     simp only [e,cond_false,hx,if_true];exact z2w gI g a b ha hg n (i+1) (by omega) (by omega) (by omega)
    ·have e:(z1 != 0)=true:=by simp [hx]
     simp only [e,cond_true,hx,if_false];exact ⟨_,rfl,.inl ⟨rfl,hx⟩⟩
   ·simp only [Wy.ev_i,Wy.ev_k,Wy.ev_h,Wy.ev_bn,Wy.ev_d,tT,hi,hi'];refine ⟨_,rfl,.inr ⟨rfl, ?_⟩⟩;rw [zbH hi,zdn hi'];unfold zdK; rw [if_neg (by omega),if_pos (by omega)]; rfl
  ·simp only [Wy.ev_i,Wy.ev_k,Wy.ev_h,Wy.ev_bn,Wy.ev_d,tT,hi];refine ⟨_,rfl,.inr ⟨rfl, ?_⟩⟩;rw [zdn hi];by_cases hi':i<b.Ag.length
   ·rw [zbH hi']; unfold zdK; rw [if_pos (by omega)]; rfl
   ·rw [zdn hi']; unfold zdK; rw [if_neg (by omega),if_neg (by omega)]; rfl
theorem zbbh (gI) (g:yB->yB->Bool×Int) (x y:At) (ha:x.Ag.length<=1000000) (hg:∀ a∈x.Ag,∀ b∈y.Ag,g a b=(true,zbo (zc1 a) (zc1 b)))
  (hI:gI x.Items y.Items=(true,zbo (zgM x.Items) (zgM y.Items))):zkC g gI x y=(true,zbF (zeC x) (zeC y)):=by
 unfold zkC zzT;rw [At.eta,At.eta];obtain ⟨r,h1,h2⟩:=z2w gI g x y ha hg (Int.toNat 0+x.Ag.length+x.Items.length+y.Ag.length+y.Items.length+1) 0 (by omega) (by omega) (by omega)
 rw [show ((0:Nat):Int)=(0:Int) from rfl] at h1
 simp only [List.drop_zero] at h2;rw [zKj (λa=>TT.l (zc1 a)) x.Ag y.Ag (λa _ b _=>by simp only [zbF]), <- zAI, <- zAI] at h2
 simp only [zq8,zQV,Wy.fin_bn,Wy.fin_i,Wy.fin_k,cond_true,h1];obtain ⟨k,r0,a,f,i,o,v⟩:=x; obtain ⟨k',r',a',f',i',o',v'⟩:=y;simp only [zeC,zbF,zbo,zrA] at *;by_cases e1:zdK k k'=0
 rotate_left
 ·simp [e1]
 by_cases e2:zdK r0.Table r'.Table=0
 rotate_left
 ·simp [e1,e2]
 by_cases e3:zdK r0.Seq r'.Seq=0
 rotate_left
 ·simp [e1,e2,e3]
 rcases h2 with ⟨rfl,h2⟩ | ⟨rfl,h2⟩
 ·simp [e1,e2,e3,h2,isL,getL]
 simp only [e1,e2,e3,h2,isL,getR,tT,hI,if_true];by_cases e4:zdK (a.length:Int) (a'.length:Int)=0
 rotate_left
 ·simp [e4]
 by_cases e5:zdK f f'=0
 rotate_left
 ·simp [e4,e5]
 by_cases e6:zbo (zgM i) (zgM i')=0
 rotate_left
 ·simp [e4,e5,e6]
 by_cases e7:zdK o o'=0
 rotate_left
 ·simp [e4,e5,e6,e7]
 simp [e4,e5,e6,e7,zzk]
theorem zIh:∀ n,
  (∀ d a b,zG d a->10*d<=n->zl5 n a b=(true,zbo (zc1 a) (zc1 b)))/\
  (∀ d l l',zhf (zG d) l->10*d+10<=n+1->zir n l l'=(true,zbo (zbT l) (zbT l')))/\
  (∀ d x y,zd2 (zG d) x->10*d+10<=n+2->zky n x y=(true,zbF (zeC x) (zeC y)))/\
  (∀ d a b,a.length<=1000000->(∀ x∈a,zG d x.Ann)->10*d+10<=n+3->zjR n a b=(true,zbo (zgM a) (zgM b)))
 | 0=>by
  refine ⟨?_, ?_, ?_, ?_⟩
  ·intro d a b h hd; have:d=0:=by omega
   subst this; exact h.elim
  all_goals (intros; omega)
 | n+1=>by
  obtain ⟨h1,h2,h3,h4⟩:=zIh n;refine ⟨?_, ?_, ?_, ?_⟩
  ·intro d a b h hd;cases d with
   | zero=>exact h.elim
   | succ d=>
    rw [zSr,zbal,zEx,zEx]
    exact z1X zwO _ _ (λx y=>zbo (zbT x.Fs) (zbT y.Fs)) (λx y=>zdK x.Cf y.Cf) a b h.1 (λx hx y hy=>h2 d _ _ (h.2 x hx) (by omega)) (λx _ y _=>zq8 _ _) λx y=>by
     obtain ⟨c,l⟩:=x; obtain ⟨c',l'⟩:=y;simp only [zwO,zbF,zbo];by_cases e:zdK c c'=0 <;>simp [e]
  ·intro d l l' h hd;rw [zGM,z7M,zuO,zuO]
   exact z1X zpk _ _ (λx y=>zbF (zeC x.At) (zeC y.At)) (λx y=>zdK x.Exp y.Exp) l l' h.1 (λx hx y hy=>h3 d _ _ (h.2 x hx) (by omega)) (λx _ y _=>zq8 _ _) λx y=>by
    obtain ⟨c,l⟩:=x; obtain ⟨c',l'⟩:=y;simp only [zpk,zbF,zbo];by_cases e:zdK l l'=0 <;>simp [e]
  ·intro d x y h hd;rw [zL4];exact zbbh _ _ x y h.1.1 (λa ha b _=>h1 d a b (h.2.1 a ha) (by omega)) (h4 d _ _ h.1.2.1 (λw hw=>(h.2.2 w hw).2) (by omega))
  ·intro d a b h0 h hd;rw [zJc,z9Z,zrB,zrB]
   exact z1X zfI _ _ (λx y=>zbF (trV x.Value) (trV y.Value)) (λx y=>zbo (zc1 x.Ann) (zc1 y.Ann)) a b h0 (λx _ y _=>zzk _ _) (λx hx y _=>h1 d _ _ (h x hx) (by omega)) λx y=>by
    obtain ⟨c,l⟩:=x; obtain ⟨c',l'⟩:=y;simp only [zfI,zbF,zbo];by_cases e:zbo (zc1 l) (zc1 l')=0 <;>simp [e]
theorem zWT {d:Nat} {a:yB} (h:zG d a) (hd:d<=100) (b:yB):zFy a b=(true,zbo (zc1 a) (zc1 b)):=(zIh 1000).1 d a b h (by omega)
theorem zJC {d:Nat} {l:yC} (h:zhf (zG d) l) (hd:d<=99) (l':yC):zti l l'=(true,zbo (zbT l) (zbT l')):=(zIh 1000).2.1 d l l' h (by omega)
theorem zPi {d:Nat} {x:At} (h:zd2 (zG d) x) (hd:d<=99) (y:At):zrS x y=(true,zbF (zeC x) (zeC y)):=(zIh 1000).2.2.1 d x y h (by omega)
theorem zMx {d:Nat} {a:yD} (h0:a.length<=1000000) (h:∀ x∈a,zG d x.Ann) (hd:d<=99) (b:yD):zwz a b=(true,zbo (zgM a) (zgM b)):=(zIh 1000).2.2.2 d a b h0 h (by omega)
theorem zQu {d:Nat} {a:yB} (h:zG d a) (hd:d<=100) (b:yB):zrg a b=(true,decide (a=b)):=by
 unfold zrg zTZ;rw [Wy.fin_bn,zWT h hd];simp only [cond_true,Wy.fin_k];congr 1;by_cases e:a=b
 ·subst e; rw [zUe]; simp
 ·have:zbo (zc1 a) (zc1 b)≠0:=λh=>e (zDH _ _ (zHr _ _ h))
  simp [e,this]
def zdR (c:Nat->Bool):Nat->Nat->Bool
 | 0,_=>true
 | n+1,i=>c i&&zdR c n (i+1)
theorem zdt {c:Nat->Bool}:∀ {n i},zdR c n i=true↔∀ k,i<=k->k<i+n->c k=true
 | 0,i=>⟨λ_ k h1 h2=>by omega,λ_=>rfl⟩
 | n+1,i=>by
  simp only [zdR,qc,zdt (n:=n)];constructor
  ·rintro ⟨h1,h2⟩ k h3 h4
   by_cases e:k=i
   ·rw [e]; exact h1
   ·exact h2 k (by omega) (by omega)
  ·intro h;exact ⟨h i (by omega) (by omega),λk h1 h2=>h k (by omega) (by omega)⟩
theorem z4Y (c c':Nat->Bool):∀ n i,zdR (λk=>c k&&c' k) n i=(zdR c n i&&zdR c' n i)
 | 0,_=>rfl
 | n+1,i=>by
  simp only [zdR,z4Y c c' n (i+1)];cases c i <;>cases c' i <;>simp
theorem z4L {τ:Type} [Inhabited τ] (p:τ->Bool) (l:List τ):∀ n i,i+n=l.length->zdR (λk=>p (l.getD k default)) n i=(l.drop i).all p
 | 0,i,h=>by rw [zdn (by omega)]; rfl
 | n+1,i,h=>by
  rw [zbH (by omega),List.all_cons]
  simp only [zdR,z4L p l n (i+1) (by omega)]
theorem zzS {τ:Type} [Inhabited τ] (p:τ->Bool) (l:List τ):zdR (λk=>p (l.getD k default)) l.length 0=l.all p:=by
 rw [z4L p l _ _ (by omega),List.drop_zero]
section
variable {α β ρ:Type}
theorem z4R {W:α->β->Wy α β ρ} {z:ρ} (N:Nat) (ex:Nat->α) (ey:Nat->β) (c:Nat->Bool) (no yes:ρ)
  (h:∀ i,i<N->∀ (H:α->β->Bool×ρ) K D,(W (ex i) (ey i)).ev H K D=bif c i then H (ex (i+1)) (ey (i+1)) else K no)
  (he:∀ (H:α->β->Bool×ρ) K D,(W (ex N) (ey N)).ev H K D=K yes):
  ∀ n i,N<i+n->i<=N->zB W z n (ex i) (ey i)=(true,bif zdR c (N - i) i then yes else no)
 | 0,i,h1,h2=>by omega
 | n+1,i,h1,h2=>by
  show (W (ex i) (ey i)).ev (zB W z n) (λr=>(true,r)) (false,z)=_
  by_cases hi:i<N
  ·rw [h i hi,show N - i=(N - (i+1))+1 by omega]
   simp only [zdR];cases c i with
   | false=>rfl
   | true=>rw [cond_true,z4R N ex ey c no yes h he n (i+1) (by omega) (by omega)]; rfl
  ·have:i=N:=by omega
   subst this;rw [he,Nat.sub_self]; rfl
theorem zcE {W:α->β->Wy α β ρ} {z:ρ} (N:Nat) (ex:Nat->α) (ey:Nat->β) (c:Nat->Bool) (no yes:ρ)
  (h:∀ i,i<N->∀ (H:α->β->Bool×ρ) K D,(W (ex i) (ey i)).ev H K D=bif c i then H (ex (i+1)) (ey (i+1)) else K no)
  (he:∀ (H:α->β->Bool×ρ) K D,(W (ex N) (ey N)).ev H K D=K yes) (n:Nat) (hn:N<n):zB W z n (ex 0) (ey 0)=(true,bif zdR c N 0 then yes else no):=by
 have:=z4R (z:=z) N ex ey c no yes h he n 0 (by omega) (by omega)
 simpa using this
end
def ixf {α:Type} (p:α->Bool):List α->Nat->Int
 | [],_=> -1
 | x::r,i=>bif p x then (i:Int) else ixf p r (i+1)
theorem z6v {α:Type} (p:α->Bool):∀ (l:List α) (i:Nat),decide (ixf p l i≥(0:Int))=l.any p
 | [],i=>by simp [ixf]
 | x::r,i=>by
  rw [List.any_cons];cases h:p x with
  | true=>simp [ixf,h]
  | false=>simpa [ixf,h] using z6v p r (i+1)
section
variable {α γ:Type} [Inhabited α]
def z3G (p:γ->α->Bool×Bool) (s:List α) (g:γ) (t7:Int) (t8:Int):Wy (List α×γ×Int×Int×Unit) Unit (Int⊕Unit):=.i (decide (t8<t7)) (.i (decide ((0:Int)<=t8)&&decide (t8<Int.ofNat s.length)) (.bn (p g (s.getD t8.toNat default)) λr0=>.i (r0) (.k (.inl t8)) (.h (s,g,t7,(IntKind.i64.wrap (t8+(1:Int))),()) ())) .d) (.k (.inr ()))
def z7E (p:γ->α->Bool×Bool) (x:List α×γ×Int×Int×Unit) (y:Unit):Wy (List α×γ×Int×Int×Unit) Unit (Int⊕Unit):=z3G p x.1 x.2.1 x.2.2.1 x.2.2.2.1
def z6U (p:γ->α->Bool×Bool) (n:Nat) (s:List α) (g:γ) (t7:Int) (t8:Int):Bool×(Int⊕Unit):=zB (z7E p) (.inl default) n (s,g,t7,t8,()) ()
def IG (p:γ->α->Bool×Bool) (n:Nat) (g:γ) (s:List α):Bool×Int:=(.bn (z6U p n s g (Int.ofNat s.length) (0:Int)) λr2=>.i (isL r2) (.k (getL r2)) (.k (-1:Int)):Wy0 Int).fin default
def z7d (p:γ->α->Bool×Bool) (s:List α) (g:γ) (t7:Int) (t8:Int):Wy (List α×γ×Int×Int×Unit) Unit (Int⊕Unit):=.i (decide (t8<t7)) (.i (decide ((0:Int)<=t8)&&decide (t8<Int.ofNat s.length)) (.i ((p g (s.getD t8.toNat default)).snd) (.k (.inl t8)) (.h (s,g,t7,(IntKind.i64.wrap (t8+(1:Int))),()) ())) .d) (.k (.inr ()))
def zbdy (p:γ->α->Bool×Bool) (x:List α×γ×Int×Int×Unit) (y:Unit):Wy (List α×γ×Int×Int×Unit) Unit (Int⊕Unit):=z7d p x.1 x.2.1 x.2.2.1 x.2.2.2.1
def z7q (p:γ->α->Bool×Bool) (n:Nat) (s:List α) (g:γ) (t7:Int) (t8:Int):Bool×(Int⊕Unit):=zB (zbdy p) (.inl default) n (s,g,t7,t8,()) ()
def IH (p:γ->α->Bool×Bool) (n:Nat) (g:γ) (s:List α):Bool×Int:=(.bn (z7q p n s g (Int.ofNat s.length) (0:Int)) λr2=>.i (isL r2) (.k (getL r2)) (.k (-1:Int)):Wy0 Int).fin default
theorem z6g (p:γ->α->Bool×Bool) (P:α->Bool) (g:γ) (s:List α) (hs:s.length<=1000000000) (hp:∀ x∈s,p g x=(true,P x)):∀ (n i:Nat),s.length<i+n->i<=s.length->
  ∃ r,z6U p n s g s.length i=(true,r)/\((r=.inl (ixf P (s.drop i) i))\/(r=.inr ()/\ixf P (s.drop i) i= -1))
 | 0,i,h,h2=>by omega
 | n+1,i,h,h2=>by
  show ∃ r,(z3G p s g s.length i).ev (λx y=>z6U p n x.1 x.2.1 x.2.2.1 x.2.2.2.1) (λr=>(true,r)) (false,.inl default)=(true,r)/\_
  unfold z3G;by_cases hi:i<s.length
  ·simp only [Wy.ev_i,Wy.ev_k,Wy.ev_h,Wy.ev_bn,Wy.ev_d,tT,hi,hp _ (zL hi)];rw [zbH hi,zX (by omega)]
   simp only [ixf];cases P (s.getD i default) with
   | true=>exact ⟨_,rfl,.inl rfl⟩
   | false=>exact z6g p P g s hs hp n (i+1) (by omega) (by omega)
  ·simp only [Wy.ev_i,Wy.ev_k,Wy.ev_h,Wy.ev_bn,Wy.ev_d,tT,hi,zdn hi];exact ⟨_,rfl,.inr ⟨rfl,rfl⟩⟩
theorem zP2 (p:γ->α->Bool×Bool) (P:α->Bool) (n:Nat) (g:γ) (s:List α) (hs:s.length<=1000000000) (hp:∀ x∈s,p g x=(true,P x)) (hn:s.length<n):IG p n g s=(true,ixf P s 0):=by
 unfold IG;obtain ⟨r,h1,h2⟩:=z6g p P g s hs hp n 0 (by omega) (by omega)
 rw [show ((0:Nat):Int)=(0:Int) from rfl] at h1
 rw [Wy.fin_bn,show Int.ofNat s.length=(s.length:Int) from rfl,h1]
 rw [List.drop_zero] at h2;rcases h2 with rfl | ⟨rfl,h2⟩
 ·rfl
 ·rw [h2]; rfl
theorem z6x (p:γ->α->Bool×Bool) (P:α->Bool) (g:γ) (s:List α) (hs:s.length<=1000000000) (hp:∀ x∈s,p g x=(true,P x)):∀ (n i:Nat),s.length<i+n->i<=s.length->
  ∃ r,z7q p n s g s.length i=(true,r)/\((r=.inl (ixf P (s.drop i) i))\/(r=.inr ()/\ixf P (s.drop i) i= -1))
 | 0,i,h,h2=>by omega
 | n+1,i,h,h2=>by
  show ∃ r,(z7d p s g s.length i).ev (λx y=>z7q p n x.1 x.2.1 x.2.2.1 x.2.2.2.1) (λr=>(true,r)) (false,.inl default)=(true,r)/\_
  unfold z7d;by_cases hi:i<s.length
  ·simp only [Wy.ev_i,Wy.ev_k,Wy.ev_h,Wy.ev_bn,Wy.ev_d,tT,hi,hp _ (zL hi)];rw [zbH hi,zX (by omega)]
   simp only [ixf];cases P (s.getD i default) with
   | true=>exact ⟨_,rfl,.inl rfl⟩
   | false=>exact z6x p P g s hs hp n (i+1) (by omega) (by omega)
  ·simp only [Wy.ev_i,Wy.ev_k,Wy.ev_h,Wy.ev_bn,Wy.ev_d,tT,hi,zdn hi];exact ⟨_,rfl,.inr ⟨rfl,rfl⟩⟩
theorem zbdf (p:γ->α->Bool×Bool) (P:α->Bool) (n:Nat) (g:γ) (s:List α) (hs:s.length<=1000000000) (hp:∀ x∈s,p g x=(true,P x)) (hn:s.length<n):IH p n g s=(true,ixf P s 0):=by
 unfold IH;obtain ⟨r,h1,h2⟩:=z6x p P g s hs hp n 0 (by omega) (by omega)
 rw [show ((0:Nat):Int)=(0:Int) from rfl] at h1
 rw [Wy.fin_bn,show Int.ofNat s.length=(s.length:Int) from rfl,h1]
 rw [List.drop_zero] at h2;rcases h2 with rfl | ⟨rfl,h2⟩
 ·rfl
 ·rw [h2]; rfl
theorem zn9 {α:Type} {s:List α} {P:α->Bool} {q:Bool×Int} (h:q=(true,ixf P s 0)):((.bn q λr0=>.k (decide (r0≥(0:Int))):Wy0 Bool).fin default)=(true,s.any P):=by
 rw [h,Wy.fin_bn,cond_true,Wy.fin_k,z6v]
end
theorem ziP (a b:Int):(a==b)=decide (a=b):=by by_cases h:a=b <;>simp [h]
theorem zXT (a b:Nat):(a==b)=decide (a=b):=by by_cases h:a=b <;>simp [h]
theorem i0 (l:Nat):((l:Int)==0)=(l==0):=by
 rw [ziP,zXT]; congr 1; simp
def zzs (a:yB):Bool:=a.any λt=>t.Fs.length==0
theorem z1u (a:yB) (h:a.length<=1000000000):zeo a=(true,zzs a):=by
 unfold zeo zwX zcY zg2;have:zdh a=IH (λ(_:Unit) x=>zgn x) (a.length+(Int.ofNat a.length).toNat +Int.toNat (0:Int)+(1:Nat)) () a:=rfl
 rw [zn9 (P:=λt:Term=>t.Fs.length==0) (this.trans (zbdf _ _ _ _ _ h (λx _=>by
  unfold zgn zs6;rw [Wy.fin_k];congr 1;exact i0 x.Fs.length) (by omega)))]
 rfl
theorem zVI (a:yB) (h:a.length<=1000000000):zkO a=(true,zzs a):=by
 unfold zkO zIH zGj
 have:=zcE (W:=zx0) (z:=.inl default) a.length (λi=>(a,(i:Int),())) (λ_=>()) (λi=> !((a.getD i default).Fs.length==0)) (.inl true) (.inr ())
  (λi hi H K D=>by
   show (zng a i).ev H K D=_;unfold zng;simp only [Wy.ev_i,Wy.ev_k,Wy.ev_h,Wy.ev_bn,Wy.ev_d,tT,hi,i0];rw [zX (by omega)]
   cases (a.getD i default).Fs.length==0 <;>rfl)
  (λH K D=>by
   show (zng a a.length).ev H K D=_;unfold zng;simp only [Wy.ev_i,Wy.ev_k,tT,Nat.lt_irrefl]) (a.length+Int.toNat (0:Int)+(1:Nat)) (by omega)
 rw [show ((0:Nat):Int)=(0:Int) from rfl] at this
 rw [Wy.fin_bn,this,zzS (λt:Term=> !(t.Fs.length==0)) a]
 have e:(a.all λt:Term=> !(t.Fs.length==0))= !zzs a:=by simp [zzs,List.all_eq_not_any_not]
 rw [e];cases zzs a <;>rfl
def isC:yB->Bool
 | [t]=>t.Fs.length==0
 | _=>false
theorem z2U (a:yB):zgP a=(true,isC a):=by
 unfold zgP zxB
 match a with
 | []=>rfl
 | [t]=>exact congrArg (Prod.mk true) (i0 t.Fs.length)
 | t::u::r=>
  have:((Int.ofNat (t::u::r).length)==(1:Int))=false:=by simp; omega
  rw [Wy.fin_i,this]; rfl
def zbdb (p:Fc->Bool):yC->Bool
 | [f]=>p f
 | _=>false
def isU:yB->Bool
 | [t]=>t.Cf==1&&zbdb (λf=>f.Exp==1&&(f.At.Kind==2||f.At.Kind==3||f.At.Kind==4)) t.Fs
 | _=>false
theorem z6D (x:At):zeX x=(true,x.Kind==3||x.Kind==4):=by
 unfold zeX zxy;rw [Wy.fin_i,Wy.fin_k,Wy.fin_k];cases x.Kind==3 <;>rfl
theorem zPO {τ:Type} (x y:τ) (r:List τ):((Int.ofNat (x::y::r).length)==(1:Int))=false:=by
 rw [beq_eq_false_iff_ne]; simp; omega
theorem z8W (a:yB):zj4 a=(true,isU a):=by
 unfold zj4 zCn
 match a with
 | []=>rfl
 | ⟨c,[]⟩::[]=>
  show (bif c != 1 then (true,false) else (true,false))=(true,c==1&&false)
  cases c != 1 <;>simp
 | ⟨c,[f]⟩::[]=>
  simp only [Wy.fin_i,Wy.fin_k,tT,isU,List.length_singleton,z6D,Wy.fin_bn,Wy.fin_d];show (bif c != 1 then (true,false) else bif f.Exp==1 then bif f.At.Kind==2 then (true,true) else (true,f.At.Kind==3||f.At.Kind==4) else (true,false))=(true,c==1&&(f.Exp==1&&(f.At.Kind==2||f.At.Kind==3||f.At.Kind==4)))
  rw [show (c != 1)= !(c==1) from rfl]
  cases c==1 <;>cases f.Exp==1 <;>cases f.At.Kind==2 <;>simp
 | ⟨c,f::g::r⟩::[]=>
  simp only [Wy.fin_i,bne,zPO];show (bif !(c==1) then (true,false) else (true,false))=(true,c==1&&false)
  cases c==1 <;>rfl
 | t::u::r=>rw [Wy.fin_i,bne,zPO]; rfl
def isB:yB->Bool
 | [t]=>t.Cf==1&&zbdb (λf=>f.Exp==1&&decide (2<=f.At.Kind)) t.Fs
 | _=>false
theorem zZd (a:yB):zsx a=(true,isB a):=by
 unfold zsx zNu
 match a with
 | []=>rfl
 | ⟨c,[]⟩::[]=>
  show (bif c==1 then (true,false) else (true,false))=(true,c==1&&false)
  cases c==1 <;>rfl
 | ⟨c,[f]⟩::[]=>
  simp only [Wy.fin_i,Wy.fin_k,tT,List.length_singleton,Wy.fin_bn,Wy.fin_d];show (bif c==1 then bif decide (2<=f.At.Kind) then (true,f.Exp==1) else (true,false) else (true,false))=(true,c==1&&(f.Exp==1&&decide (2<=f.At.Kind)))
  cases c==1 <;>cases f.Exp==1 <;>cases decide (2<=f.At.Kind) <;>simp
 | ⟨c,f::g::r⟩::[]=>
  rw [Wy.fin_i];show (bif true then (Wy.i true (Wy.i (c==1) (Wy.i true (Wy.i (Int.ofNat (f::g::r).length==1) _ (.k false)) .d) (.k false)) .d:Wy0 Bool).fin default else _)=(true,c==1&&false)
  simp only [Wy.fin_i,Wy.fin_k,zPO,cond_true,cond_false];cases c==1 <;>rfl
 | t::u::r=>rw [Wy.fin_i,zPO]; rfl
theorem zNe (a b:Nat):decide (a>b)= !decide (a<=b):=by
 by_cases h:a<=b
 ·have:¬ a>b:=by omega
  simp [h,this]
 ·have:a>b:=by omega
  simp [h,this]
def zyC (t:Term):Bool:= !(decide (t.Fs.length>64)||t.Fs.any λf=>decide (f.Exp>64)||decide (f.At.Items.length>1024))
def zkm (a:yB):Bool:=decide (a.length<=512)&&decide (zbq a<=8)&&decide (zP a<=4096)&&a.all zyC
theorem z65 (l:yC) (h:l.length<=1000000):zcn l=(true,l.any λf=>decide (f.Exp>64)||decide (f.At.Items.length>1024)):=by
 unfold zcn zhq
 have hw:zc4=z7E (λ(_:Unit) x=>zfr x):=by
  funext x y
  unfold zc4 zig z7E z3G;rw [Fc.eta2]
 have:zcD l=IG (λ(_:Unit) x=>zfr x) (l.length+(Int.ofNat l.length).toNat +Int.toNat (0:Int)+(1:Nat)) () l:=by
  unfold zcD zio zik;rw [hw]; rfl
 exact zn9 (this.trans (zP2 _ _ _ _ _ (by omega) (λx _=>by
  unfold zfr zvy;rw [Wy.fin_i,Wy.fin_k,Wy.fin_k];have e:decide (Int.ofNat x.At.Items.length>(1024:Int))=decide (x.At.Items.length>1024):=ziv _ 1024;rw [e];cases decide (x.Exp>64) <;>rfl) (by omega)))
theorem z8N {d:Nat} {a:yB} (h:zG d a) (hd:d<=100) (hs:zP a<=4611686018427387904):zj2 a=(true,zkm a):=by
 obtain ⟨h1,h2⟩:a.length<=1000000/\∀ t∈a,t.Fs.length<=1000000:=by
  cases d with
  | zero=>exact h.elim
  | succ d=>exact ⟨h.1,λt ht=>(h.2 t ht).1⟩
 have h3:zcg a=(true,a.any λt=> !zyC t):=by
  unfold zcg zgY;have:zdg a=IG (λ(_:Unit) x=>zjN x) (a.length+(Int.ofNat a.length).toNat +Int.toNat (0:Int)+(1:Nat)) () a:=rfl
  exact zn9 (this.trans (zP2 _ _ _ _ _ (by omega) (λx hx=>by
   unfold zjN zyt;rw [Wy.fin_i,Wy.fin_k,Wy.fin_bn,z65 _ (h2 x hx)];have e:decide (Int.ofNat x.Fs.length>(64:Int))=decide (x.Fs.length>64):=ziv _ 64;rw [e];unfold zyC;cases decide (x.Fs.length>64) <;>simp [Wy.fin_k]) (by omega)))
 unfold zj2 zCm;have n1:zwK a=(true,(zbq a:Int)):=(z06 1000 d a h (by omega) hd).1
 have n2:zBh a=(true,(zP a:Int)):=(zYt 1000 d a h (by omega) hs).1
 simp only [Wy.fin_i,Wy.fin_k,Wy.fin_bn,n1,n2,h3,cond_true];have e1:decide (Int.ofNat a.length>(512:Int))= !decide (a.length<=512):=by rw [show decide (Int.ofNat a.length>(512:Int))=decide (a.length>512) from ziv _ 512]; exact zNe _ _
 have e2:decide ((zbq a:Int)>(8:Int))= !decide (zbq a<=8):=by rw [show decide ((zbq a:Int)>(8:Int))=decide (zbq a>8) from ziv _ 8]; exact zNe _ _
 have e3:decide ((zP a:Int)>(4096:Int))= !decide (zP a<=4096):=by rw [show decide ((zP a:Int)>(4096:Int))=decide (zP a>4096) from ziv _ 4096]; exact zNe _ _
 have e4:(a.any λt=> !zyC t)= !a.all zyC:=by simp [List.all_eq_not_any_not]
 rw [e1,e2,e3,e4];unfold zkm;cases decide (a.length<=512) <;>cases decide (zbq a<=8) <;>cases decide (zP a<=4096) <;>simp
theorem zbcS (a:yB) (i:Nat) (hi:i<a.length) (hl:(a.getD i default).Fs.length<=1000000) (fuel:Nat) (hf:(a.getD i default).Fs.length<fuel):
  zQB fuel a i 0=(true,bif (a.getD i default).Fs.any λf=>decide (f.Exp>64)||decide (f.At.Items.length>1024) then .inl false else .inr (a,(i:Int))):=by
 have:=zcE (W:=zFI) (z:=.inl default) (a.getD i default).Fs.length (λk=>(a,(i:Int),(k:Int),())) (λ_=>()) (λk=>(λf:Fc=> !(decide (f.Exp>64)||decide (f.At.Items.length>1024))) ((a.getD i default).Fs.getD k default)) (.inl false) (.inr (a,(i:Int)))
  (λk hk H K D=>by
   show (zt9 a i k).ev H K D=_;unfold zt9;simp only [Wy.ev_i,Wy.ev_k,Wy.ev_h,Wy.ev_bn,Wy.ev_d,tT,hi,hk];rw [zX (by omega),show decide ((((a.getD i default).Fs.getD k default).At.Items.length:Int)>(1024:Int))=_ from ziv _ 1024]
   cases decide (((a.getD i default).Fs.getD k default).Exp>64) <;>cases decide (1024<((a.getD i default).Fs.getD k default).At.Items.length) <;>rfl)
  (λH K D=>by
   show (zt9 a i (a.getD i default).Fs.length).ev H K D=_;unfold zt9;simp only [Wy.ev_i,Wy.ev_k,Wy.ev_h,Wy.ev_bn,Wy.ev_d,tT,hi,Nat.lt_irrefl]) fuel hf
 rw [zzS (λf:Fc=> !(decide (f.Exp>64)||decide (f.At.Items.length>1024)))] at this
 have e:((a.getD i default).Fs.all λf=> !(decide (f.Exp>64)||decide (f.At.Items.length>1024)))= !((a.getD i default).Fs.any λf=>decide (f.Exp>64)||decide (f.At.Items.length>1024)):=by simp [List.all_eq_not_any_not]
 rw [e] at this;refine this.trans ?_;cases (a.getD i default).Fs.any λf=>decide (f.Exp>64)||decide (f.At.Items.length>1024) <;>rfl
theorem zbbJ {d:Nat} {a:yB} (h:zG d a) (hd:d<=100) (hs:zP a<=4611686018427387904):zBJ a=(true,zkm a):=by
 obtain ⟨h1,h2⟩:a.length<=1000000/\∀ t∈a,t.Fs.length<=1000000:=by
  cases d with
  | zero=>exact h.elim
  | succ d=>exact ⟨h.1,λt ht=>(h.2 t ht).1⟩
 have h3:zQD ((a.length+Int.toNat (0:Int)+(1:Nat))+zd3 a) a 0=(true,bif a.all zyC then .inr () else .inl false):=by
  have:=zcE (W:=zFd) (z:=.inl default) a.length (λk=>(a,(k:Int),())) (λ_=>()) (λk=>zyC (a.getD k default)) (.inl false) (.inr ())
   (λk hk H K D=>by
    show (zuL a k).ev H K D=_;unfold zuL;have h4:=h2 _ (zL hk);have h5:=zI0 a k hk;simp only [Wy.ev_i,Wy.ev_k,Wy.ev_h,Wy.ev_bn,Wy.ev_d,tT,hk];rw [zbcS a k hk h4 _ (by omega)]
    have e:decide (((a.getD k default).Fs.length:Int)>(64:Int))=decide ((a.getD k default).Fs.length>64):=ziv _ 64;rw [e];unfold zyC;cases decide ((a.getD k default).Fs.length>64) <;>cases ((a.getD k default).Fs.any λf=>decide (f.Exp>64)||decide (f.At.Items.length>1024))
    ·simp only [cond_false,cond_true,isL,getR]; rw [zX (by omega)]; rfl
    all_goals rfl)
   (λH K D=>by
    show (zuL a a.length).ev H K D=_;unfold zuL;simp only [Wy.ev_i,Wy.ev_k,Wy.ev_h,Wy.ev_bn,Wy.ev_d,tT,Nat.lt_irrefl]) ((a.length+Int.toNat (0:Int)+(1:Nat))+zd3 a) (by omega)
  rw [zzS] at this;exact this
 unfold zBJ zSc;have n1:zES a=(true,(zbq a:Int)):=(z06 1000 d a h (by omega) hd).2
 have n2:zPB a=(true,(zP a:Int)):=(zYt 1000 d a h (by omega) hs).2
 simp only [Wy.fin_i,Wy.fin_k,Wy.fin_bn,n1,n2,h3,cond_true];have e1:decide (Int.ofNat a.length>(512:Int))= !decide (a.length<=512):=by rw [show decide (Int.ofNat a.length>(512:Int))=decide (a.length>512) from ziv _ 512]; exact zNe _ _
 have e2:decide ((zbq a:Int)>(8:Int))= !decide (zbq a<=8):=by rw [show decide ((zbq a:Int)>(8:Int))=decide (zbq a>8) from ziv _ 8]; exact zNe _ _
 have e3:decide ((zP a:Int)>(4096:Int))= !decide (zP a<=4096):=by rw [show decide ((zP a:Int)>(4096:Int))=decide (zP a>4096) from ziv _ 4096]; exact zNe _ _
 rw [e1,e2,e3];unfold zkm;cases decide (a.length<=512) <;>cases decide (zbq a<=8) <;>cases decide (zP a<=4096) <;>cases a.all zyC <;>simp [isL,getL]
def zh6 (v:Value):Bool:=(v.Kind==0&&v.Text.size==0)||(v.Kind==1&&v.Int==0&&decide (v.Text.size<=255))||(v.Kind==2&&v.Text.size==0&&(v.Int==0||v.Int==1))
theorem z5s (s:ByteArray):(s.toList==(ByteArray.mk #[]).toList)=(s.size==0):=by
 rw [zwR];by_cases h:s.size=0
 ·have:s=ByteArray.mk #[]:=zwS (by
   have:s.data.toList.length=0:=by simpa using h
   rw [List.length_eq_zero_iff.1 this])
  subst this; rfl
 ·have:¬ s=ByteArray.mk #[]:=λe=>h (by rw [e]; rfl)
  simp [h,this]
theorem zxn (v:Value):zoc v=(true,zh6 v):=by
 unfold zoc zQp zh6;simp only [z5s,Wy.fin_i,Wy.fin_k,ziP,zXT];have e:decide (Int.ofNat v.Text.size<=(255:Int))=decide (v.Text.size<=255):=zsH _ 255;rw [e];by_cases h0:v.Kind=0
 ·simp [h0]
 ·by_cases h1:v.Kind=1
  ·by_cases h2:v.Int=0 <;>simp [h1,h2]
  ·by_cases h2:v.Kind=2
   ·by_cases h3:v.Int=0
    ·simp [h2,h3]
    ·by_cases h4:v.Int=1 <;>simp [h2,h3,h4]
   ·simp [h0,h1,h2]
theorem zxh (v:Value):zoe v=(true,zh6 v):=by
 unfold zoe zQC zh6;simp only [z5s,Wy.fin_i,Wy.fin_k,ziP,zXT];have e:decide (Int.ofNat v.Text.size<=(255:Int))=decide (v.Text.size<=255):=zsH _ 255;rw [e];by_cases h0:v.Kind=0
 ·simp [h0]
 ·by_cases h1:v.Kind=1
  ·by_cases h2:v.Int=0 <;>simp [h1,h2]
  ·by_cases h2:v.Kind=2
   ·by_cases h3:v.Int=0
    ·by_cases h4:v.Text.size=0 <;>simp [h2,h3,h4]
    ·by_cases h4:v.Text.size=0 <;>simp [h2,h3,h4]
   ·simp [h0,h1,h2]
def zJb (fn:Int) (b:Value) (w:Wd):Bool:=zh6 w.Value&&(w.Value.Kind==b.Kind)&& !(fn==0&&w.Value.Int != 1)
def zBc (fn:Int) (l:yD) (op:Int) (b:Value):Bool:=decide (0<=fn)&&decide (fn<=3)&&decide (5<=op)&&decide (op<=10)&&zh6 b&& !(decide (fn<=1)&&b.Kind != 0)&&l.all (zJb fn b)
theorem z9Q (l:yD) (fn:Int) (b:Value) (h:l.length<=1000000):zbn l b fn=(true, !l.all (zJb fn b)):=by
 unfold zbn zgc;have:zcU l b fn=IG (λ(g:Value×(Int×Unit)×Unit) x=>zgN x g.1 g.2.1.1) (l.length+fn.toNat +(Int.ofNat l.length).toNat +Int.toNat (0:Int)+(1:Nat)) (b,(fn,()),()) l:=rfl
 have e:(!l.all (zJb fn b))=l.any λw=> !zJb fn b w:=by simp [List.all_eq_not_any_not]
 rw [e]
 exact zn9 (this.trans (zP2 _ _ _ _ _ (by omega) (λx _=>by
  show zgN x b fn=_;unfold zgN zxA zJb;simp only [Wy.fin_i,Wy.fin_k,Wy.fin_bn,zxn,cond_true,ziP,zrA];cases zh6 x.Value <;>by_cases h1:x.Value.Kind=b.Kind <;>by_cases h2:fn=0 <;>simp [ziP,zrA,h1,h2]) (by omega)))
theorem z7S (fn:Int) (l:yD) (op:Int) (b:Value) (h:l.length<=1000000):zi0 fn l op b=(true,zBc fn l op b):=by
 unfold zi0 zA0 zBc;simp only [Wy.fin_i,Wy.fin_k,Wy.fin_bn,zxn,z9Q l fn b h,cond_true,ziP,zrA];by_cases h1:fn<0
 ·have:¬ (0<=fn):=by omega
  simp [h1,this]
 by_cases h2:3<fn
 ·have:¬ (fn<=3):=by omega
  simp [h1,h2,this]
 by_cases h3:op<5
 ·have:¬ (5<=op):=by omega
  simp [h1,h2,h3,this]
 by_cases h4:10<op
 ·have:¬ (op<=10):=by omega
  simp [h1,h2,h3,h4,this]
 have g1:0<=fn:=by omega
 have g2:fn<=3:=by omega
 have g3:5<=op:=by omega
 have g4:op<=10:=by omega
 cases zh6 b with
 | false=>simp [h1,h2,h3,h4]
 | true=>
  by_cases h5:fn=0
  ·subst h5; by_cases h6:b.Kind=0 <;>simp [h3,h4,h6,g3,g4]
  ·by_cases h7:fn=1
   ·subst h7; by_cases h6:b.Kind=0 <;>simp [h3,h4,h6,g3,g4]
   ·have:¬ fn<=1:=by omega
    simp [h1,h2,h3,h4,h5,h7,this,g1,g2,g3,g4]
theorem zbac (fn:Int) (l:yD) (op:Int) (b:Value) (h:l.length<=1000000):zyb fn l op b=(true,zBc fn l op b):=by
 unfold zyb zQr zBc
 have hl:zDd (fn.toNat +l.length+Int.toNat (0:Int)+(1:Nat)) fn l (0:Int) b=(true,bif l.all (zJb fn b) then .inr () else .inl false):=by
  have:=zcE (W:=zCQ) (z:=.inl default) l.length (λk=>(fn,l,(),(k:Int),())) (λ_=>(b,())) (λk=>zJb fn b (l.getD k default)) (.inl false) (.inr ())
   (λk hk H K D=>by
    show (zsa fn l k b).ev H K D=_;unfold zsa zJb;simp only [Wy.ev_i,Wy.ev_k,Wy.ev_h,Wy.ev_bn,Wy.ev_d,tT,hk,zxh,ziP,zrA];rw [zX (by omega)]
    cases zh6 (l.getD k default).Value <;>cases decide ((l.getD k default).Value.Kind=b.Kind) <;>cases decide (fn=0) <;>cases decide ((l.getD k default).Value.Int=1) <;>rfl)
   (λH K D=>by
    show (zsa fn l l.length b).ev H K D=_;unfold zsa;simp only [Wy.ev_i,Wy.ev_k,Wy.ev_h,Wy.ev_bn,Wy.ev_d,tT,Nat.lt_irrefl]) (fn.toNat +l.length+Int.toNat (0:Int)+(1:Nat)) (by omega)
  rw [zzS] at this;exact this
 simp only [Wy.fin_i,Wy.fin_k,Wy.fin_bn,zxh,hl,cond_true,ziP,zrA];by_cases h1:fn<0
 ·have:¬ (0<=fn):=by omega
  simp [h1,this]
 by_cases h2:3<fn
 ·have:¬ (fn<=3):=by omega
  simp [h1,h2,this]
 by_cases h3:op<5
 ·have:¬ (5<=op):=by omega
  simp [h1,h2,h3,this]
 by_cases h4:10<op
 ·have:¬ (op<=10):=by omega
  simp [h1,h2,h3,h4,this]
 have g1:0<=fn:=by omega
 have g2:fn<=3:=by omega
 have g3:5<=op:=by omega
 have g4:op<=10:=by omega
 cases zh6 b with
 | false=>simp [h1,h2,h3,h4]
 | true=>
  by_cases h5:fn<=1
  ·by_cases h6:b.Kind=0
   ·cases l.all (zJb fn b) <;>simp [h1,h2,h3,h4,h5,h6,g1,g2,g3,g4,isL,getL]
   ·simp [h1,h2,h3,h4,h5,h6,g1,g2,g3,g4]
  ·cases l.all (zJb fn b) <;>simp [h1,h2,h3,h4,h5,g1,g2,g3,g4,isL,getL]
def bz (b:Value):Bool:=b.Kind==(0:Int)&&(b.Int==(0:Int)&&(b.Text.toList==(ByteArray.mk #[]).toList&&true))
def plA (x:At):Bool:=x.Func==0&&(x.Items.length==0)&&x.Op==0&&bz x.Bd
theorem z99 (x:At):zoa x=(true,plA x):=by
 unfold zoa zQx plA;simp only [Wy.fin_i,Wy.fin_k,Int.ofNat_eq_natCast,i0];show _=(true,_&&_&&_&&bz x.Bd);rw [show (x.Bd.Kind==(0:Int)&&(x.Bd.Int==(0:Int)&&(x.Bd.Text.toList==(ByteArray.mk #[]).toList&&true)))=bz x.Bd from rfl]
 cases x.Func==0 <;>cases x.Items.length==0 <;>cases x.Op==0 <;>rfl
def zSR (l:yD) (k:Nat):Bool:=decide (k=0)||decide (zbF (zfI (l.getD (k - 1) default)) (zfI (l.getD k default))<=0)
def zXL (l:yD):Bool:=zdR (zSR l) l.length 0
theorem zSt (c:Nat->Bool):∀ n i,zdR c (n+1) i=(zdR c n i&&c (i+n))
 | 0,i=>by simp [zdR]
 | n+1,i=>by
  rw [zdR,zSt c n (i+1),zdR,show i+1+n=i+(n+1) by omega,Bool.and_assoc]
theorem zQl {d:Nat} (l:yD) (hl:l.length<=1000000) (h:∀ w∈l,zG d w.Ann) (hd:d<=99):∀ (n i:Nat),i<l.length->i<n->zdM n l i=(true,bif zdR (zSR l) (i+1) 0 then .inr () else .inl false)
 | 0,i,hi,hn=>by omega
 | n+1,i,hi,hn=>by
  show (zdL l i).ev (λx y=>zdM n x.1 x.2.2.1) (λr=>(true,r)) (false,.inl default)=_
  unfold zdL;have hg:decide ((i:Int)>(0:Int))=decide (0<i):=ziv i 0;cases i with
  | zero=>simp [Wy.ev_i,Wy.ev_k,zdR,zSR]
  | succ i=>
   have hi':i<l.length:=by omega
   have hw:IntKind.i64.wrap (((i+1:Nat):Int) - 1)=(i:Int):=by rw [zwT (by omega) (by omega)]; rfl
   have hp:decide (0<i+1)=true:=by simp
   simp only [Wy.ev_i,Wy.ev_k,Wy.ev_h,Wy.ev_bn,Wy.ev_d,hg,hp,hw,tT,hi,hi',zEW (h _ (zL hi)) hd];rw [zQl l hl h hd n i hi' (by omega),zSt _ (i+1),Nat.zero_add]
   have:zSR l (i+1)= !decide (zbF (zfI (l.getD (i+1) default)) (zfI (l.getD i default))<0):=by
    unfold zSR;rw [show i+1 - 1=i from rfl,zwi (zfI (l.getD (i+1) default)) (zfI (l.getD i default))]
    generalize zbF (zfI (l.getD (i+1) default)) (zfI (l.getD i default))=z;by_cases hz:z<0
    ·have:¬ (-z<=0):=by omega
     simp [hz,this]
    ·have:(-z<=0):=by omega
     simp [hz,this]
   rw [this];cases decide (zbF (zfI (l.getD (i+1) default)) (zfI (l.getD i default))<0) <;>simp
theorem z5K {d:Nat} (l:yD) (hl:l.length<=1000000) (h:∀ w∈l,zG d w.Ann) (hd:d<=99):zce l=(true,zXL l):=by
 unfold zce zg8 zXL
 match l,hl,h with
 | [],_,_=>rfl
 | x::r,hl,h=>
  have hw:IntKind.i64.wrap (Int.ofNat (x::r).length - 1)=(r.length:Int):=by
   rw [qf] at hl;rw [show Int.ofNat (x::r).length=(((x::r).length:Nat):Int) from rfl,zwT (by simp) (by simp; omega)]; rfl
  rw [Wy.fin_bn,hw,zQl (x::r) hl h hd _ r.length (by simp) (by simp; omega)]
  cases zdR (zSR (x::r)) (r.length+1) 0 with
  | true=>simp [Wy.fin_i,Wy.fin_k,isL]
  | false=>simp [Wy.fin_i,Wy.fin_k,isL,getL]
def rz (r:RowID):Bool:=r.Table==(0:Int)&&(r.Seq==(0:Int)&&true)
def zoJ (V:yB->Bool) (l:yA):Bool:=l.all λa=>V a&& !(a.length==0)
def zz3 (V:yB->Bool) (l:yD):Bool:=l.all λw=>V w.Ann&& !(w.Ann.length==0)
def zDs (r:RowID):Bool:=decide (r.Table≥1)&&decide (r.Seq≥1)
def zDB (p:yB->Bool):yA->Bool
 | [a]=>p a
 | _=>false
def zZ6 (p:yB->yB->Bool):yA->Bool
 | [a,b]=>p a b
 | _=>false
def zd0 (V:yB->Bool) (x:At):Bool:=
 zoJ V x.Ag&&
 if x.Kind=0 then plA x&&zDs x.Row&&(x.Ag.length==0)
 else rz x.Row&&
  if x.Kind=1 then plA x&&zZ6 (λa b=> !decide (a=b)) x.Ag
  else if x.Kind=2 then plA x&&zDB (λa=> !isC a&& !isU a) x.Ag
  else if x.Kind=3 then plA x&&zDB (λa=> !zzs a) x.Ag
  else if x.Kind=4 then (x.Ag.length==0)&&decide (0<x.Items.length)&&zz3 V x.Items&&zXL x.Items&&zBc x.Func x.Items x.Op x.Bd
  else false
def zLO (vat:At->Bool) (fs:yC) (k:Nat):Bool:=
 decide (1<=(fs.getD k default).Exp)&& !(((fs.getD k default).At.Kind==3||(fs.getD k default).At.Kind==4)&&(fs.getD k default).Exp != 1)&&
  (decide (k=0)||decide (zbF (zeC (fs.getD (k - 1) default).At) (zeC (fs.getD k default).At)<0))&&vat (fs.getD k default).At
def okF (vat:At->Bool) (fs:yC):Bool:=zdR (zLO vat fs) fs.length 0
def zBm (vat:At->Bool) (a:yB) (i:Nat):Bool:=
 decide (1<=(a.getD i default).Cf)&&decide ((a.getD i default).Cf<=1152921504606846976)&&
  (decide (i=0)||decide (zbo (zbT (a.getD (i - 1) default).Fs) (zbT (a.getD i default).Fs)<0))&&okF vat (a.getD i default).Fs
def zxZ (vat:At->Bool) (a:yB):Bool:=zkm a&&zdR (zBm vat a) a.length 0
def zbU:Nat->yB->Bool
 | 0,_=>false
 | n+1,a=>zxZ (zd0 (zbU n)) a
theorem zKa (r:RowID):zpj r=(true,zDs r):=by
 unfold zpj zNK zDs;rw [Wy.fin_i,Wy.fin_k,Wy.fin_k];cases decide (r.Table≥1) <;>rfl
theorem zBC {V:yB->Bool} {x:At} (h:zd0 V x=true):0<=x.Kind/\x.Kind<=4:=by
 unfold zd0 at h;by_cases h0:x.Kind=0
 ·omega
 by_cases h1:x.Kind=1
 ·omega
 by_cases h2:x.Kind=2
 ·omega
 by_cases h3:x.Kind=3
 ·omega
 by_cases h4:x.Kind=4
 ·omega
 simp [h0,h1,h2,h3,h4] at h
theorem zvS (l k:Nat):((Int.ofNat l)==(k:Int))=(l==k):=by
 rw [ziP,zXT]; congr 1; simp; omega
section
variable (V:yB->Bool) (gW:yD->Bool×Bool) (gA:yA->Bool×Bool) (c1:yB->Bool×Bool) (c2:Wd->Bool×Bool)
theorem z09 (x:At) {d:Nat} (hx:zd2 (zG d) x) (hd:d<=99) (hA:gA x.Ag=(true, !zoJ V x.Ag)) (hW:gW x.Items=(true, !zz3 V x.Items)):
  ziq gA c1 gW c2 x=(true,zd0 V x):=by
 have hS:=z5K x.Items hx.1.2.1 (λw hw=>(hx.2.2 w hw).2) hd
 have hF:=z7S x.Func x.Items x.Op x.Bd hx.1.2.1;have hE:∀ a∈x.Ag,∀ b,zfz a b=(true,decide (a=b)):=λa ha b=>zCw (hx.2.1 a ha) (by omega) b
 have hC:∀ a∈x.Ag,zeo a=(true,zzs a):=λa ha=>z1u a (by
  have:=hx.2.1 a ha;cases d with
  | zero=>exact this.elim
  | succ d=>have:=this.1; omega)
 obtain ⟨k,r,l,f,its,o,b⟩:=x;simp only at hA hW hS hF hE hC;unfold ziq zb6 zd0 plA;simp only [zKa,hA,hW,hS,hF,Wy.fin_i,Wy.fin_k,Wy.fin_bn,cond_true]
 rw [show (b.Kind==(0:Int)&&(b.Int==(0:Int)&&(b.Text.toList==(ByteArray.mk #[]).toList&&true)))=bz b from rfl,
  show (r.Table==(0:Int)&&(r.Seq==(0:Int)&&true))=rz r from rfl,
  show (Int.ofNat its.length != 0)= !(its.length==0) from congrArg not (zvS its.length 0),show (f != 0)= !(f==0) from rfl,show (o != 0)= !(o==0) from rfl]
 generalize zoJ V l=A at *;generalize zz3 V its=W at *;generalize bz b=B at *;generalize (f==0)=F at *;generalize (o==0)=O at *;generalize rz r=R at *;generalize zDs r=RO at *;generalize zXL its=S at *;generalize zBc f its o b=K at *;have hgt:decide (Int.ofNat its.length>0)=decide (0<its.length):=ziv its.length 0;rw [hgt];generalize (its.length==0)=I at *;generalize decide (0<its.length)=J at *;by_cases h0:k=0
 ·subst h0;simp only [zvS,show ((Int.ofNat l.length)==(0:Int))=(l.length==0) from zvS l.length 0]
  generalize (l.length==0)=L;cases F <;>cases I <;>cases O <;>cases B <;>cases A <;>cases RO <;>rfl
 by_cases h1:k=1
 ·subst h1
  match l,hE with
  | [],_=>cases F <;>cases I <;>cases O <;>cases B <;>cases A <;>cases R <;>rfl
  | [u],_=>cases F <;>cases I <;>cases O <;>cases B <;>cases A <;>cases R <;>rfl
  | [u,v],hE=>
   have e:=hE u (by simp) v
   simp only [List.getD,qf,List.length_nil,Int.toNat_zero,List.getElem?_cons_zero,List.getElem?_cons_succ,Option.getD,show Int.toNat 1=1 from rfl,zZ6]
   simp only [e];generalize decide (u=v)=E;cases F <;>cases I <;>cases O <;>cases B <;>cases A <;>cases R <;>rfl
  | u::v::w::l,_=>
   have e:((Int.ofNat (u::v::w::l).length)==(2:Int))=false:=by rw [beq_eq_false_iff_ne]; simp; omega
   simp only [e];cases F <;>cases I <;>cases O <;>cases B <;>cases A <;>cases R <;>rfl
 by_cases h2:k=2
 ·subst h2
  match l with
  | []=>cases F <;>cases I <;>cases O <;>cases B <;>cases A <;>cases R <;>rfl
  | [u]=>
   simp only [List.getD,qf,List.length_nil,Int.toNat_zero,List.getElem?_cons_zero,Option.getD,zDB,z2U,z8W];generalize isC u=E;generalize isU u=E';cases F <;>cases I <;>cases O <;>cases B <;>cases A <;>cases R <;>cases E <;>cases E' <;>rfl
  | u::v::l=>
   simp only [zPO];cases F <;>cases I <;>cases O <;>cases B <;>cases A <;>cases R <;>rfl
 by_cases h3:k=3
 ·subst h3
  match l,hC with
  | [],_=>cases F <;>cases I <;>cases O <;>cases B <;>cases A <;>cases R <;>rfl
  | [u],hC=>
   have e:=hC u (by simp)
   simp only [List.getD,qf,List.length_nil,Int.toNat_zero,List.getElem?_cons_zero,Option.getD,zDB];simp only [e];generalize zzs u=E;cases F <;>cases I <;>cases O <;>cases B <;>cases A <;>cases R <;>cases E <;>rfl
  | u::v::l,_=>
   simp only [zPO];cases F <;>cases I <;>cases O <;>cases B <;>cases A <;>cases R <;>rfl
 by_cases h4:k=4
 ·subst h4;simp only [show ((Int.ofNat l.length)==(0:Int))=(l.length==0) from zvS l.length 0]
  generalize (l.length==0)=L;cases A <;>cases W <;>cases L <;>cases J <;>cases S <;>cases K <;>cases R <;>rfl
 simp only [ziP,h0,h1,h2,h3,h4,decide_false,if_false,cond_false];cases F <;>cases I <;>cases O <;>cases B <;>cases A <;>cases R <;>rfl
end
section
variable (V:yB->Bool) (g:yB->Bool×Bool)
theorem zbdi (x:At) (hl:x.Ag.length<=1000000) (hg:∀ a∈x.Ag,g a=(true,V a)) (n:Nat) (hn:x.Ag.length<n):ztJ g n 0 x=(true,bif zoJ V x.Ag then .inr x else .inl false):=by
 have:=zcE (W:=ztM g) (z:=.inl default) x.Ag.length (λi=>((),(i:Int),())) (λ_=>(x,())) (λi=>(λa:yB=>V a&& !(a.length==0)) (x.Ag.getD i default)) (.inl false) (.inr x)
  (λi hi H K D=>by
   show (zjz g i x).ev H K D=_;unfold zjz;have hL:decide ((i:Int)<Int.ofNat x.Ag.length)=true:=by simp [hi]
   simp only [Wy.ev_i,Wy.ev_k,Wy.ev_h,Wy.ev_bn,Wy.ev_d,hL,zuW,Bool.and_self,cond_true,Int.toNat_natCast,hg _ (zL hi)];rw [zX (by omega),show (Int.ofNat (x.Ag.getD i default).length==(0:Int))=((x.Ag.getD i default).length==0) from zvS _ 0]
   cases V (x.Ag.getD i default) <;>cases ((x.Ag.getD i default).length==0) <;>rfl)
  (λH K D=>by
   show (zjz g x.Ag.length x).ev H K D=_;unfold zjz;have hL:decide ((x.Ag.length:Int)<Int.ofNat x.Ag.length)=false:=by simp
   simp only [Wy.ev_i,Wy.ev_k,hL,cond_false]) n hn
 rw [zzS (λa:yB=>V a&& !(a.length==0))] at this
 exact this
theorem zbaC {τ:Type} [Inhabited τ] (l:List τ) (i:Nat) (h:i<l.length):List.take 1 (List.drop i l)=[l.getD i default]:=by
 rw [zbH h]; rfl
theorem zbdA (x y:TT):zbo [x] [y]=zbF x y:=by
 simp only [zbo];split
 ·rename_i h; exact h.symm
 ·rfl
theorem zbcu (x:At) {d:Nat} (hx:zd2 (zG d) x) (hd:d<=99) (hg:∀ a∈x.Items,g a.Ann=(true,V a.Ann)) (n:Nat) (hn:x.Items.length<n):zz7 g n 0 x=(true,bif zz3 V x.Items&&zXL x.Items then .inr () else .inl false):=by
 have hl:x.Items.length<=1000000:=hx.1.2.1
 have:=zcE (W:=zsp g) (z:=.inl default) x.Items.length (λi=>((),(i:Int),())) (λ_=>(x,())) (λi=>(λw:Wd=>V w.Ann&& !(w.Ann.length==0)) (x.Items.getD i default)&&zSR x.Items i) (.inl false) (.inr ())
  (λi hi H K D=>by
   show (ziR g i x).ev H K D=_;unfold ziR;have hL:decide ((i:Int)<Int.ofNat x.Items.length)=true:=by simp [hi]
   simp only [Wy.ev_i,Wy.ev_k,Wy.ev_h,Wy.ev_bn,Wy.ev_d,hL,zuW,Bool.and_self,cond_true,Int.toNat_natCast,hg _ (zL hi)];rw [zX (by omega),show (Int.ofNat (x.Items.getD i default).Ann.length==(0:Int))=((x.Items.getD i default).Ann.length==0) from zvS _ 0]
   cases V (x.Items.getD i default).Ann <;>cases ((x.Items.getD i default).Ann.length==0) <;>try rfl
   simp only [cond_true,cond_false,Bool.not_true,Bool.not_false,Bool.and_self,Bool.true_and];cases i with
   | zero=>rfl
   | succ i=>
    have hi':i<x.Items.length:=by omega
    have hw:IntKind.i64.wrap (((i+1:Nat):Int) - 1)=(i:Int):=by rw [zwT (by omega) (by omega)]; rfl
    have e1:(decide ((0:Int)<=(i:Int))&&decide ((i:Int)<=((i+1:Nat):Int))&&decide (((i+1:Nat):Int)<=Int.ofNat x.Items.length))=true:=by
     simp; try omega
    have e2:(decide (((i+1:Nat):Int)<=((i+1+1:Nat):Int))&&decide (((i+1+1:Nat):Int)<=Int.ofNat x.Items.length))=true:=by
     simp; try omega
    have e3:decide (((i+1:Nat):Int)>0)=true:=by simp; try omega
    simp only [hw,e1,e2,e3,cond_true,Bool.true_and,Int.toNat_natCast,show i+1 - i=1 by omega,show i+1+1 - (i+1)=1 by omega,zbaC _ _ hi,zbaC _ _ hi']
    rw [zMx (d:=d) (by simp) (λw hw=>by
     rw [qh] at hw; subst hw; exact (hx.2.2 _ (zL hi')).2) hd,zrB,zrB]
    simp only [List.map,zbdA,cond_true,zSR,show i+1 - 1=i from rfl]
    have e4:decide (i+1=0)=false:=by simp
    rw [e4,Bool.false_or];generalize zbF (zfI (x.Items.getD i default)) (zfI (x.Items.getD (i+1) default))=z;by_cases hz:z>0
    ·have:¬ z<=0:=by omega
     simp only [hz,this,decide_true,decide_false,cond_true,cond_false]
    ·have:z<=0:=by omega
     simp only [hz,this,decide_true,decide_false,cond_true,cond_false])
  (λH K D=>by
   show (ziR g x.Items.length x).ev H K D=_;unfold ziR;have hL:decide ((x.Items.length:Int)<Int.ofNat x.Items.length)=false:=by simp
   simp only [Wy.ev_i,Wy.ev_k,hL,cond_false]) n hn
 rw [z4Y (λi=>(λw:Wd=>V w.Ann&& !(w.Ann.length==0)) (x.Items.getD i default)),zzS (λw:Wd=>V w.Ann&& !(w.Ann.length==0))] at this
 exact this
theorem z6m {A ρ:Type} (s:A) (k:A->Wy0 ρ) (z:ρ):(Wy.bn (true,s) k).fin z=(k s).fin z:=rfl
theorem zZw (x:At) {d:Nat} (hx:zd2 (zG d) x) (hd:d<=99) (h10:x.Items.length<=1024) (hV:∀ a,V a=true->isB a=isU a) (hgA:∀ a∈x.Ag,g a=(true,V a)) (hgI:∀ a∈x.Items,g a.Ann=(true,V a.Ann)):
  zm8 g x=(true,zd0 V x):=by
 have hS:=λn hn=>zbcu V g x hx hd hgI n hn
 have hA:=λn hn=>zbdi V g x hx.1.1 hgA n hn
 have hF:=zbac x.Func x.Items x.Op x.Bd hx.1.2.1;have hE:∀ a∈x.Ag,∀ b,zrg a b=(true,decide (a=b)):=λa ha b=>zQu (hx.2.1 a ha) (by omega) b
 have hC:∀ a∈x.Ag,zkO a=(true,zzs a):=λa ha=>zVI a (by
  have:=hx.2.1 a ha;cases d with
  | zero=>exact this.elim
  | succ d=>have:=this.1; omega)
 have hP:=z99 x;unfold zm8 zCs zd0;obtain ⟨s,hs1,hs2⟩:∃ s,ztJ g (Int.toNat (0:Int)+x.Ag.length+x.Items.length+(1:Nat)) 0 x=(true,s)/\s=bif zoJ V x.Ag then .inr x else .inl false:=⟨_,hA _ (by omega),rfl⟩
 rw [At.eta,hP,hs1];simp only [Wy.fin_i,Wy.fin_k,z6m];simp only [Wy.fin_i,Wy.fin_k,Wy.fin_bn,cond_true];rw [show (x.Row.Table==(0:Int)&&(x.Row.Seq==(0:Int)&&true))=rz x.Row from rfl]
 have b0:(x.Kind==(0:Int))=decide (x.Kind=0):=ziP _ _;have b1:(x.Kind==(1:Int))=decide (x.Kind=1):=ziP _ _;have b2:(x.Kind==(2:Int))=decide (x.Kind=2):=ziP _ _;have b3:(x.Kind==(3:Int))=decide (x.Kind=3):=ziP _ _;have b4:(x.Kind==(4:Int))=decide (x.Kind=4):=ziP _ _;by_cases h0:x.Kind=0
 ·rw [b0];simp only [h0,decide_true,cond_true,if_true];rw [show (Int.ofNat x.Ag.length==(0:Int))=(x.Ag.length==0) from zvS _ 0]
  unfold zDs
  match hl:x.Ag with
  | []=>cases decide (x.Row.Table≥1) <;>cases decide (x.Row.Seq≥1) <;>cases plA x <;>rfl
  | u::l=>cases decide (x.Row.Table≥1) <;>cases decide (x.Row.Seq≥1) <;>cases plA x <;>cases zoJ V (u::l) <;>rfl
 rw [b0];simp only [h0,decide_false,cond_false,if_false];cases hA:zoJ V x.Ag with
 | false=>rw [hs2,hA]; cases rz x.Row <;>rfl
 | true=>
 rw [hA,cond_true] at hs2;have hy:getR s=x:=by rw [hs2]; rfl
 have hy2:isL s=false:=by rw [hs2]; rfl
 rw [hy2];generalize getR s=y at hy ⊢;subst hy;cases rz y.Row with
 | false=>rfl
 | true=>
 simp only [Bool.not_true,cond_false,cond_true,isL,getR,Bool.true_and,At.eta,hP,hF,b1,b2,b3,b4];by_cases h1:y.Kind=1
 ·simp only [h1,decide_true,cond_true,if_true]
  match hl:y.Ag with
  | []=>cases plA y <;>rfl
  | [u]=>cases plA y <;>rfl
  | [u,v]=>
   have e:=hE u (by rw [hl]; simp) v
   simp only [List.getD,qf,List.length_nil,Int.toNat_zero,List.getElem?_cons_zero,List.getElem?_cons_succ,Option.getD,show Int.toNat 1=1 from rfl,zZ6]
   simp only [e];generalize decide (u=v)=E;cases plA y <;>rfl
  | u::v::w::l=>
   have e:((Int.ofNat (u::v::w::l).length)==(2:Int))=false:=by rw [beq_eq_false_iff_ne]; simp; omega
   simp only [e];cases plA y <;>rfl
 simp only [h1,decide_false,cond_false,if_false];by_cases h2:y.Kind=2
 ·simp only [h2,decide_true,cond_true,if_true]
  match hl:y.Ag with
  | []=>cases plA y <;>rfl
  | [u]=>
   have e:=hC u (by rw [hl]; simp)
   have eV:V u=true:=by
    rw [hl] at hA;unfold zoJ at hA;simp at hA;exact hA.1
   simp only [List.getD,qf,List.length_nil,Int.toNat_zero,List.getElem?_cons_zero,Option.getD,zDB,zZd,e,hV u eV]
   match u with
   | []=>cases plA y <;>rfl
   | [t]=>
    have e1:zzs [t]=(t.Fs.length==0):=by simp [zzs]
    have e2:isC [t]=(t.Fs.length==0):=rfl;rw [e1,e2];cases plA y <;>cases (t.Fs.length==0) <;>cases isU [t] <;>rfl
   | t::s::r=>
    simp only [zPO];cases plA y <;>rfl
  | u::v::l=>
   simp only [zPO];cases plA y <;>rfl
 simp only [h2,decide_false,cond_false,if_false];by_cases h3:y.Kind=3
 ·simp only [h3,decide_true,cond_true,if_true]
  match hl:y.Ag with
  | []=>cases plA y <;>rfl
  | [u]=>
   have e:=hC u (by rw [hl]; simp)
   simp only [List.getD,qf,List.length_nil,Int.toNat_zero,List.getElem?_cons_zero,Option.getD,zDB];simp only [e];cases plA y <;>cases zzs u <;>rfl
  | u::v::l=>
   simp only [zPO];cases plA y <;>rfl
 simp only [h3,decide_false,cond_false,if_false];by_cases h4:y.Kind=4
 ·have e10:decide (Int.ofNat y.Items.length>(1024:Int))=false:=by simp; omega
  rw [hS _ (by omega)]
  rw [e10];simp only [h4,decide_true,cond_true,if_true,cond_false];rw [show (Int.ofNat y.Ag.length != (0:Int))= !(y.Ag.length==0) from congrArg not (zvS y.Ag.length 0),show (Int.ofNat y.Items.length==(0:Int))=(y.Items.length==0) from zvS y.Items.length 0]
  have e11:decide (0<y.Items.length)= !(y.Items.length==0):=by
   rw [zXT];by_cases h:y.Items.length=0
   ·simp [h]
   ·have:0<y.Items.length:=by omega
    simp [h,this]
  rw [e11];cases (y.Ag.length==0) <;>cases (y.Items.length==0) <;>cases zBc y.Func y.Items y.Op y.Bd <;>cases zz3 V y.Items <;>cases zXL y.Items <;>rfl
 simp only [h4,decide_false,cond_false,if_false]
end
section
variable (V:yB->Bool) (vat:At->Bool)
theorem V_9 (g:At->Bool×Bool) (a t10:yB) (t11 t12:Int) (t:Term) {d:Nat} (ht:zhf (zG d) t.Fs) (hd:d<=99) (hg:∀ f∈t.Fs,g f.At=(true,vat f.At)) (n:Nat) (hn:t.Fs.length<n):
  zsv g n a t10 t11 t12 t.Fs t.Fs.length 0 t=(true,bif okF vat t.Fs then .inr (a,t10,t11,t12) else .inl false):=by
 have hl:=ht.1
 exact zcE (W:=zsd g) (z:=.inl default) t.Fs.length (λk=>(a,(),t10,t11,t12,t.Fs,(t.Fs.length:Int),(k:Int),())) (λ_=>(t,())) (zLO vat t.Fs) (.inl false) (.inr (a,t10,t11,t12))
  (λk hk H K D=>by
   show (ziS g a t10 t11 t12 t.Fs t.Fs.length k t).ev H K D=_;unfold ziS zLO
   have hgt:decide ((k:Int)>0)= !decide (k=0):=by
    by_cases h:k=0
    ·subst h; rfl
    ·have:0<k:=by omega
     simp [h,this]
   simp only [At.eta,Wy.ev_i,Wy.ev_k,Wy.ev_h,Wy.ev_bn,Wy.ev_d,tT,hk,z6D,hg _ (zL hk),hgt];rw [zX (by omega)]
   have e1:decide ((t.Fs.getD k default).Exp<1)= !decide (1<=(t.Fs.getD k default).Exp):=by
    by_cases h:1<=(t.Fs.getD k default).Exp
    ·have:¬ (t.Fs.getD k default).Exp<1:=by omega
     simp only [h,this,decide_true,decide_false,Bool.not_true]
    ·have:(t.Fs.getD k default).Exp<1:=by omega
     simp only [h,this,decide_true,decide_false,Bool.not_false]
   rw [e1];generalize decide (1<=(t.Fs.getD k default).Exp)=E1;generalize ((t.Fs.getD k default).Exp != 1)=E2;generalize ((t.Fs.getD k default).At.Kind==3||(t.Fs.getD k default).At.Kind==4)=E3;by_cases h0:k=0
   ·simp only [h0,decide_true,Bool.not_true,cond_false,Bool.true_or,Bool.and_true];cases E1 <;>cases E2 <;>cases E3 <;>cases vat (t.Fs.getD 0 default).At <;>rfl
   ·have hp:IntKind.i64.wrap ((k:Int) - 1)=((k - 1:Nat):Int):=zwT (by omega) (by omega)
    have hk':k - 1<t.Fs.length:=by omega
    have hfx:zd2 (zG d) (t.Fs.getD (k - 1) default).At:=ht.2 _ (zL hk')
    have e2:∀ z:Int,decide (z≥0)= !decide (z<0):=λz=>by
     by_cases h:z<0
     ·have:¬ z≥0:=by omega
      simp [h,this]
     ·have:z≥0:=by omega
      simp [h,this]
    simp only [h0,hp,tT,hk',zFD hfx hd,e2,Bool.false_or];generalize decide (zbF (zeC (t.Fs.getD (k - 1) default).At) (zeC (t.Fs.getD k default).At)<0)=E4;cases E1 <;>cases E2 <;>cases E3 <;>cases E4 <;>cases vat (t.Fs.getD k default).At <;>rfl)
  (λH K D=>by
   show (ziS g a t10 t11 t12 t.Fs t.Fs.length t.Fs.length t).ev H K D=_;unfold ziS;simp only [Wy.ev_i,Wy.ev_k,tT,Nat.lt_irrefl]) n hn
theorem V_4 (g:At->Bool×Bool) (a:yB) {d:Nat} (h:zG (d+1) a) (hd:d<=99) (hg:∀ t∈a,∀ f∈t.Fs,g f.At=(true,vat f.At)) (n:Nat) (hn:a.length<n):
  zzY g n a a a.length 0=(true,bif zdR (zBm vat a) a.length 0 then .inr () else .inl false):=by
 have hl:=h.1
 exact zcE (W:=zsk g) (z:=.inl default) a.length (λk=>(a,a,(a.length:Int),(k:Int),())) (λ_=>()) (zBm vat a) (.inl false) (.inr ())
  (λk hk H K D=>by
   show (ziW g a a a.length k).ev H K D=_;unfold ziW zBm;have ht:=h.2 _ (zL hk)
   have hgt:decide ((k:Int)>0)= !decide (k=0):=by
    by_cases h:k=0
    ·subst h; rfl
    ·have:0<k:=by omega
     simp [h,this]
   simp only [At.eta,Wy.ev_i,Wy.ev_k,Wy.ev_h,Wy.ev_bn,Wy.ev_d,tT,hk,hgt];rw [V_9 vat g a a a.length k _ ht hd (hg _ (zL hk)) _ (by omega)]
   have e1:decide ((a.getD k default).Cf<1)= !decide (1<=(a.getD k default).Cf):=by
    by_cases h:1<=(a.getD k default).Cf
    ·have:¬ (a.getD k default).Cf<1:=by omega
     simp only [h,this,decide_true,decide_false,Bool.not_true]
    ·have:(a.getD k default).Cf<1:=by omega
     simp only [h,this,decide_true,decide_false,Bool.not_false]
   have e3:decide ((a.getD k default).Cf>1152921504606846976)= !decide ((a.getD k default).Cf<=1152921504606846976):=by
    by_cases h:(a.getD k default).Cf<=1152921504606846976
    ·have:¬ (a.getD k default).Cf>1152921504606846976:=by omega
     simp only [h,this,decide_true,decide_false,Bool.not_true]
    ·have:(a.getD k default).Cf>1152921504606846976:=by omega
     simp only [h,this,decide_true,decide_false,Bool.not_false]
   rw [e1,e3];generalize decide (1<=(a.getD k default).Cf)=E1;generalize decide ((a.getD k default).Cf<=1152921504606846976)=E2;by_cases h0:k=0
   ·subst h0;simp only [decide_true,Bool.not_true,cond_false,Bool.true_or,Bool.and_true];cases okF vat (a.getD 0 default).Fs <;>cases E1 <;>cases E2 <;>try rfl
   ·have hp:IntKind.i64.wrap ((k:Int) - 1)=((k - 1:Nat):Int):=zwT (by omega) (by omega)
    have hk':k - 1<a.length:=by omega
    have hfx:zhf (zG d) (a.getD (k - 1) default).Fs:=h.2 _ (zL hk')
    have e2:∀ z:Int,decide (z≥0)= !decide (z<0):=λz=>by
     by_cases h:z<0
     ·have:¬ z≥0:=by omega
      simp [h,this]
     ·have:z≥0:=by omega
      simp [h,this]
    simp only [h0,hp,tT,hk',zE0 hfx hd,e2,Bool.false_or];generalize decide (zbo (zbT (a.getD (k - 1) default).Fs) (zbT (a.getD k default).Fs)<0)=E4;cases okF vat (a.getD k default).Fs <;>cases E1 <;>cases E2 <;>cases E4 <;>try rfl
    simp only [cond_true,cond_false,Bool.not_true,isL,getR,Bool.and_self];rw [zX (by omega),decide_eq_false (show ¬ ((k - 1:Nat):Int)<0 by omega)]; rfl)
  (λH K D=>by
   show (ziW g a a a.length a.length).ev H K D=_;unfold ziW;simp only [Wy.ev_i,Wy.ev_k,tT,Nat.lt_irrefl]) n hn
theorem z7j (g:At->Bool×Bool) (a:yB) {d:Nat} (h:zG (d+1) a) (hd:d<=99) (hs:zP a<=4611686018427387904) (hg:∀ t∈a,∀ f∈t.Fs,g f.At=(true,vat f.At)):zlj g a=(true,zxZ vat a):=by
 unfold zlj zBv zxZ;have:=V_4 vat g a h hd hg (a.length+a.length+(Int.ofNat a.length).toNat +Int.toNat (0:Int)+(1:Nat)) (by omega)
 rw [show Int.ofNat a.length=(a.length:Int) from rfl] at *
 simp only [Wy.fin_i,Wy.fin_k,Wy.fin_bn,z8N h (by omega) hs,this,cond_true]
 cases zkm a <;>cases zdR (zBm vat a) a.length 0 <;>rfl
theorem zbdQ (g:At->Bool×Bool) (a:yB) (i:Int) (t:Term) {d:Nat} (ht:zhf (zG d) t.Fs) (hd:d<=99) (hg:∀ f∈t.Fs,g f.At=(true,vat f.At)) (hk:∀ x,vat x=true->0<=x.Kind/\x.Kind<=4) (n:Nat) (hn:t.Fs.length<n):
  zya g n a i 0 t=(true,bif okF vat t.Fs then .inr (a,i) else .inl false):=by
 have hl:=ht.1
 exact zcE (W:=zxN g) (z:=.inl default) t.Fs.length (λk=>(a,i,(),(k:Int),())) (λ_=>(t,())) (zLO vat t.Fs) (.inl false) (.inr (a,i))
  (λk hk1 H K D=>by
   show (zmW g a i k t).ev H K D=_;unfold zmW zLO
   have hgt:decide ((k:Int)>0)= !decide (k=0):=by
    by_cases h:k=0
    ·subst h; rfl
    ·have:0<k:=by omega
     simp [h,this]
   simp only [At.eta,Wy.ev_i,Wy.ev_k,Wy.ev_h,Wy.ev_bn,Wy.ev_d,tT,hk1,hg _ (zL hk1),hgt];rw [zX (by omega)]
   have hk2:=hk (t.Fs.getD k default).At
   have e1:decide ((t.Fs.getD k default).Exp<1)= !decide (1<=(t.Fs.getD k default).Exp):=by
    by_cases h:1<=(t.Fs.getD k default).Exp
    ·have:¬ (t.Fs.getD k default).Exp<1:=by omega
     simp only [h,this,decide_true,decide_false,Bool.not_true]
    ·have:(t.Fs.getD k default).Exp<1:=by omega
     simp only [h,this,decide_true,decide_false,Bool.not_false]
   rw [e1];by_cases hx1:1<=(t.Fs.getD k default).Exp
   rotate_left
   ·simp only [hx1,decide_false,Bool.not_false,cond_true,Bool.false_and,cond_false]
   cases hv:vat (t.Fs.getD k default).At with
   | false=>
    rw [Bool.and_false];cases decide (1<=(t.Fs.getD k default).Exp) <;>cases decide ((t.Fs.getD k default).Exp>1) <;>cases decide ((t.Fs.getD k default).At.Kind≥3) <;>rfl
   | true=>
   obtain ⟨k1,k2⟩:=hk2 hv
   have e5:((t.Fs.getD k default).At.Kind==3||(t.Fs.getD k default).At.Kind==4)=decide ((t.Fs.getD k default).At.Kind≥3):=by
    rw [ziP,ziP, <- Bool.decide_or];congr 1;apply propext; omega
   have e6:((t.Fs.getD k default).Exp != 1)=decide ((t.Fs.getD k default).Exp>1):=by
    rw [zrA, <- decide_not];congr 1;apply propext; omega
   rw [e5,e6];simp only [hx1,decide_true,Bool.not_true,cond_false,Bool.true_and];generalize decide ((t.Fs.getD k default).Exp>1)=E2;generalize decide ((t.Fs.getD k default).At.Kind≥3)=E3;by_cases h0:k=0
   ·simp only [h0,decide_true,Bool.not_true,cond_false,Bool.true_or,Bool.and_true];cases E2 <;>cases E3 <;>rfl
   ·have hp:IntKind.i64.wrap ((k:Int) - 1)=((k - 1:Nat):Int):=zwT (by omega) (by omega)
    have hk':k - 1<t.Fs.length:=by omega
    have hfx:zd2 (zG d) (t.Fs.getD (k - 1) default).At:=ht.2 _ (zL hk')
    have e2:∀ z:Int,decide (z≥0)= !decide (z<0):=λz=>by
     by_cases h:z<0
     ·have:¬ z≥0:=by omega
      simp [h,this]
     ·have:z≥0:=by omega
      simp [h,this]
    simp only [h0,hp,tT,hk',zPi hfx hd,e2,Bool.false_or];generalize decide (zbF (zeC (t.Fs.getD (k - 1) default).At) (zeC (t.Fs.getD k default).At)<0)=E4;cases E2 <;>cases E3 <;>cases E4 <;>rfl)
  (λH K D=>by
   show (zmW g a i t.Fs.length t).ev H K D=_;unfold zmW;simp only [Wy.ev_i,Wy.ev_k,tT,Nat.lt_irrefl]) n hn
theorem zbdS (g:At->Bool×Bool) (a:yB) {d:Nat} (h:zG (d+1) a) (hd:d<=99) (hg:∀ t∈a,∀ f∈t.Fs,g f.At=(true,vat f.At)) (hk:∀ x,vat x=true->0<=x.Kind/\x.Kind<=4) (n:Nat) (hn:a.length<n):
  zHG g n a 0=(true,bif zdR (zBm vat a) a.length 0 then .inr () else .inl false):=by
 have hl:=h.1
 exact zcE (W:=zzd g) (z:=.inl default) a.length (λk=>(a,(k:Int),())) (λ_=>()) (zBm vat a) (.inl false) (.inr ())
  (λk hk1 H K D=>by
   show (zpf g a k).ev H K D=_;unfold zpf zBm;have ht:=h.2 _ (zL hk1)
   have hgt:decide ((k:Int)>0)= !decide (k=0):=by
    by_cases h:k=0
    ·subst h; rfl
    ·have:0<k:=by omega
     simp [h,this]
   simp only [At.eta,Wy.ev_i,Wy.ev_k,Wy.ev_h,Wy.ev_bn,Wy.ev_d,tT,hk1,hgt];rw [zbdQ vat g a k _ ht hd (hg _ (zL hk1)) hk _ (by omega)]
   have e1:decide ((a.getD k default).Cf<1)= !decide (1<=(a.getD k default).Cf):=by
    by_cases h:1<=(a.getD k default).Cf
    ·have:¬ (a.getD k default).Cf<1:=by omega
     simp only [h,this,decide_true,decide_false,Bool.not_true]
    ·have:(a.getD k default).Cf<1:=by omega
     simp only [h,this,decide_true,decide_false,Bool.not_false]
   have e3:decide ((a.getD k default).Cf>1152921504606846976)= !decide ((a.getD k default).Cf<=1152921504606846976):=by
    by_cases h:(a.getD k default).Cf<=1152921504606846976
    ·have:¬ (a.getD k default).Cf>1152921504606846976:=by omega
     simp only [h,this,decide_true,decide_false,Bool.not_true]
    ·have:(a.getD k default).Cf>1152921504606846976:=by omega
     simp only [h,this,decide_true,decide_false,Bool.not_false]
   rw [e1,e3];generalize decide (1<=(a.getD k default).Cf)=E1;generalize decide ((a.getD k default).Cf<=1152921504606846976)=E2;by_cases h0:k=0
   ·subst h0;simp only [decide_true,Bool.not_true,cond_false,Bool.true_or,Bool.and_true];cases okF vat (a.getD 0 default).Fs <;>cases E1 <;>cases E2 <;>try rfl
   ·have hp:IntKind.i64.wrap ((k:Int) - 1)=((k - 1:Nat):Int):=zwT (by omega) (by omega)
    have hk':k - 1<a.length:=by omega
    have hfx:zhf (zG d) (a.getD (k - 1) default).Fs:=h.2 _ (zL hk')
    have e2:∀ z:Int,decide (z≥0)= !decide (z<0):=λz=>by
     by_cases h:z<0
     ·have:¬ z≥0:=by omega
      simp [h,this]
     ·have:z≥0:=by omega
      simp [h,this]
    simp only [h0,hp,tT,hk',zJC hfx hd,e2,Bool.false_or];generalize decide (zbo (zbT (a.getD (k - 1) default).Fs) (zbT (a.getD k default).Fs)<0)=E4;cases okF vat (a.getD k default).Fs <;>cases E1 <;>cases E2 <;>cases E4 <;>try rfl
    simp only [cond_true,cond_false,Bool.not_true,isL,getR,Bool.and_self];rw [zX (by omega),decide_eq_false (show ¬ ((k - 1:Nat):Int)<0 by omega)]; rfl)
  (λH K D=>by
   show (zpf g a a.length).ev H K D=_;unfold zpf;simp only [Wy.ev_i,Wy.ev_k,tT,Nat.lt_irrefl]) n hn
theorem z5X (g:At->Bool×Bool) (a:yB) {d:Nat} (h:zG (d+1) a) (hd:d<=99) (hs:zP a<=4611686018427387904) (hg:zkm a=true->∀ t∈a,∀ f∈t.Fs,g f.At=(true,vat f.At)) (hk:∀ x,vat x=true->0<=x.Kind/\x.Kind<=4):zut g a=(true,zxZ vat a):=by
 unfold zut zKm zxZ;rw [Wy.fin_bn,zbbJ h (by omega) hs]
 cases hw:zkm a with
 | false=>rfl
 | true=>
  have:=zbdS vat g a h hd (hg hw) hk ((a.length+Int.toNat (0:Int)+(1:Nat))+zd3 a) (by omega)
  simp only [Wy.fin_i,Wy.fin_k,Wy.fin_bn,this,cond_true];cases zdR (zBm vat a) a.length 0 <;>rfl
end
theorem zWl {l:yA} {a:yB} (h:a∈l):zP a<=zer l:=by
 induction l with
 | nil=>cases h
 | cons b r ih=>
  rw [zeh];rcases qd.1 h with rfl | h
  ·omega
  ·have:=ih h; omega
theorem zTh {l:yD} {w:Wd} (h:w∈l):zP w.Ann<=zcQ l:=by
 induction l with
 | nil=>cases h
 | cons b r ih=>
  rw [zhi];rcases qd.1 h with rfl | h
  ·omega
  ·have:=ih h; omega
theorem z4l {m:Nat} {a:yB} (h:zbU m a=true):isB a=isU a:=by
 cases m with
 | zero=>cases h
 | succ m=>
 match a with
 | []=>rfl
 | [t]=>
  simp only [zbU,zxZ,qc] at h;have h1:=zdt.1 h.2 0 (by omega) (by simp)
  simp only [zBm,qc] at h1;have h2:=h1.2;obtain ⟨c,fs⟩:=t
  match fs with
  | []=>rfl
  | [f]=>
   have h3:=zdt.1 h2 0 (by omega) (by simp)
   simp only [zLO,qc] at h3;have h4:=zBC h3.2;simp only [List.getD_cons_zero] at h4;show (c==1&&(f.Exp==1&&decide (2<=f.At.Kind)))=(c==1&&(f.Exp==1&&(f.At.Kind==2||f.At.Kind==3||f.At.Kind==4)))
   have e:decide (2<=f.At.Kind)=(f.At.Kind==2||f.At.Kind==3||f.At.Kind==4):=by
    rw [ziP,ziP,ziP, <- Bool.decide_or, <- Bool.decide_or];congr 1;apply propext; omega
   rw [e]
  | f::f'::r=>rfl
 | t::u::r=>rfl
theorem zbdN (g) (l:yA):zcv g l=IG (λ(_:Unit) x=>g x) (l.length+(Int.ofNat l.length).toNat +Int.toNat (0:Int)+(1:Nat)) () l:=rfl
theorem zbdu (g) (l:yD):zcM g l=IG (λ(_:Unit) x=>g x) (l.length+(Int.ofNat l.length).toNat +Int.toNat (0:Int)+(1:Nat)) () l:=rfl
theorem zKf:∀ n,
  (∀ d m a,zG d a->10*d<=n->d<=m->d<=100->zP a<=4611686018427387904->ziY n a=(true,zbU m a))/\
  (∀ d m x,zd2 (zG d) x->10*d+9<=n->d<=m->d<=99->zeB x<=4611686018427387904->zk5 n x=(true,zd0 (zbU m) x))/\
  (∀ d m a,zG d a->10*d+6<=n->d<=m->d<=99->zP a<=4611686018427387904->zes n a=(true, !(zbU m a&& !(a.length==0))))/\
  (∀ d m (w:Wd),zG d w.Ann->10*d+6<=n->d<=m->d<=99->zP w.Ann<=4611686018427387904->zez n w=(true, !(zbU m w.Ann&& !(w.Ann.length==0))))/\
  (∀ d m (l:yA),l.length<=1000000->(∀ a∈l,zG d a/\zP a<=4611686018427387904)->10*d+7<=n->d<=m->d<=99->zcu n l=(true,ixf (λa=> !(zbU m a&& !(a.length==0))) l 0))/\
  (∀ d m (l:yA),l.length<=1000000->(∀ a∈l,zG d a/\zP a<=4611686018427387904)->10*d+8<=n->d<=m->d<=99->zcj n l=(true, !zoJ (zbU m) l))/\
  (∀ d m (l:yD),l.length<=1000000->(∀ a∈l,zG d a.Ann/\zP a.Ann<=4611686018427387904)->10*d+7<=n->d<=m->d<=99->zcN n l=(true,ixf (λa=> !(zbU m a.Ann&& !(a.Ann.length==0))) l 0))/\
  (∀ d m (l:yD),l.length<=1000000->(∀ a∈l,zG d a.Ann/\zP a.Ann<=4611686018427387904)->10*d+8<=n->d<=m->d<=99->zcB n l=(true, !zz3 (zbU m) l))
 | 0=>by
  refine ⟨?_, ?_, ?_, ?_, ?_, ?_, ?_, ?_⟩
  ·intro d m a h hd; have:d=0:=by omega
   subst this; exact h.elim
  all_goals (intros; omega)
 | n+1=>by
  obtain ⟨h1,h2,h3,h4,h5,h6,h7,h8⟩:=zKf n;refine ⟨?_, ?_, ?_, ?_, ?_, ?_, ?_, ?_⟩
  ·intro d m a h hd hm hd2 hs;cases d with
   | zero=>exact h.elim
   | succ d=>
    cases m with
    | zero=>omega
    | succ m=>
     rw [zNL]
     exact z7j _ _ a h (by omega) hs λt ht f hf=>h2 d m f.At ((h.2 t ht).2 f hf) (by omega) (by omega) (by omega) (by
      have:=zUJ ht hf; rw [zgy]; omega)
  ·intro d m x h hd hm hd2 hs;rw [zGC];rw [zgy] at hs
   exact z09 _ _ _ _ _ x h hd2 (h6 d m _ h.1.1 (λa ha=>⟨h.2.1 a ha,by have:=zWl ha; omega⟩) (by omega) hm hd2)
    (h8 d m _ h.1.2.1 (λa ha=>⟨(h.2.2 a ha).2,by have:=zTh ha; omega⟩) (by omega) hm hd2)
  ·intro d m a h hd hm hd2 hs;rw [zCH];unfold zja zth;rw [Wy.fin_bn,h1 d m a h (by omega) hm (by omega) hs]
   simp only [cond_true,Wy.fin_i,Wy.fin_k,show (Int.ofNat a.length==(0:Int))=(a.length==0) from zvS a.length 0]
   cases zbU m a <;>simp
  ·intro d m a h hd hm hd2 hs;rw [zDh];unfold zi8 zs4;rw [Wy.fin_bn,h1 d m a.Ann h (by omega) hm (by omega) hs]
   simp only [cond_true,Wy.fin_i,Wy.fin_k,show (Int.ofNat a.Ann.length==(0:Int))=(a.Ann.length==0) from zvS a.Ann.length 0]
   cases zbU m a.Ann <;>simp
  ·intro d m l hl h hd hm hd2;rw [zle,zbdN];exact zP2 _ _ _ _ _ (by omega) (λx hx=>h3 d m x (h x hx).1 (by omega) hm hd2 (h x hx).2) (by omega)
  ·intro d m l hl h hd hm hd2;rw [zkg];unfold zci zeK;rw [zn9 (h5 d m l hl h (by omega) hm hd2)]
   simp [zoJ,List.all_eq_not_any_not]
  ·intro d m l hl h hd hm hd2;rw [zmS,zbdu];exact zP2 _ _ _ _ _ (by omega) (λx hx=>h4 d m x (h x hx).1 (by omega) hm hd2 (h x hx).2) (by omega)
  ·intro d m l hl h hd hm hd2;rw [zli];unfold zcA zfD;rw [zn9 (h7 d m l hl h (by omega) hm hd2)]
   simp [zz3,List.all_eq_not_any_not]
theorem z5y {a:yB} (h:zkm a=true) {t:Term} (ht:t∈a) {f:Fc} (hf:f∈t.Fs):f.At.Items.length<=1024/\f.Exp<=64/\t.Fs.length<=64:=by
 simp only [zkm,qc,List.all_eq_true] at h;have:=h.2 t ht;simp only [zyC,Bool.not_eq_true',Bool.or_eq_false_iff,decide_eq_false_iff_not,List.any_eq_false] at this;have h2:=this.2 f hf;simp at h2;omega
theorem z0j:∀ n,
  (∀ d m a,zG d a->3*d<=n->d<=m->d<=100->zP a<=4611686018427387904->zuA n a=(true,zbU m a))/\
  (∀ d m x,zd2 (zG d) x->3*d+2<=n->d<=m->d<=99->zeB x<=4611686018427387904->x.Items.length<=1024->zrV n x=(true,zd0 (zbU m) x))
 | 0=>by
  refine ⟨?_, ?_⟩
  ·intro d m a h hd; have:d=0:=by omega
   subst this; exact h.elim
  ·intros; omega
 | n+1=>by
  obtain ⟨h1,h2⟩:=z0j n;refine ⟨?_, ?_⟩
  ·intro d m a h hd hm hd2 hs;cases d with
   | zero=>exact h.elim
   | succ d=>
    cases m with
    | zero=>omega
    | succ m=>
     rw [zXU]
     exact z5X _ _ a h (by omega) hs (λhw t ht f hf=>h2 d m f.At ((h.2 t ht).2 f hf) (by omega) (by omega) (by omega) (by
      have:=zUJ ht hf; rw [zgy]; omega) (z5y hw ht hf).1) λx hx=>zBC hx
  ·intro d m x h hd hm hd2 hs h10;rw [zPw];rw [zgy] at hs
   exact zZw _ _ x h hd2 h10 (λa ha=>z4l ha) (λa ha=>h1 d m a (h.2.1 a ha) (by omega) hm (by omega) (by have:=zWl ha; omega))
    λa ha=>h1 d m a.Ann (h.2.2 a ha).2 (by omega) hm (by omega) (by have:=zTh ha; omega)
def zcx (a:yB):Bool:=zbU 100 a
theorem z8n {d:Nat} {a:yB} (h:zG d a) (hd:d<=100) (hs:zP a<=4611686018427387904):zb7 a=(true,zcx a):=(zKf 1000).1 d 100 a h (by omega) hd hd hs
theorem z62 {d:Nat} {a:yB} (h:zG d a) (hd:d<=100) (hs:zP a<=4611686018427387904):zyr a=(true,zcx a):=(z0j 1000).1 d 100 a h (by omega) hd hd hs
theorem zDy {τ:Type} [Inhabited τ] {l:List τ} {x:τ} (h:x∈l):∃ i,i<l.length/\l.getD i default=x:=by
 obtain ⟨i,hi,e⟩:=List.mem_iff_getElem.1 h;exact ⟨i,hi,by rw [List.getD_eq_getElem?_getD,List.getElem?_eq_getElem hi]; exact e⟩
theorem zAa {vat:At->Bool} {a:yB} (h:zxZ vat a=true):zkm a=true:=by
 simp only [zxZ,qc] at h; exact h.1
theorem zlr {vat:At->Bool} {a:yB} (h:zxZ vat a=true) {t:Term} (ht:t∈a):(1<=t.Cf/\t.Cf<=1152921504606846976)/\okF vat t.Fs=true:=by
 simp only [zxZ,qc] at h;obtain ⟨i,hi,rfl⟩:=zDy ht;have:=zdt.1 h.2 i (by omega) (by omega)
 simp only [zBm,qc,qe] at this;exact ⟨this.1.1,this.2⟩
theorem ziB {vat:At->Bool} {fs:yC} (h:okF vat fs=true) {f:Fc} (hf:f∈fs):(1<=f.Exp/\(f.At.Kind=3\/f.At.Kind=4->f.Exp=1))/\vat f.At=true:=by
 obtain ⟨i,hi,rfl⟩:=zDy hf;have:=zdt.1 h i (by omega) (by omega)
 simp only [zLO,qc,qe] at this;refine ⟨⟨this.1.1.1,λhk=> ?_⟩,this.2⟩
 have h2:=this.1.1.2;rcases hk with hk | hk
 ·rw [hk] at h2; simpa using h2
 ·rw [hk] at h2; simpa using h2
theorem zbaO {b:Value} (h:bz b=true):b=⟨0,0,ByteArray.mk #[]⟩:=by
 unfold bz at h;rw [zwR] at h;simp only [qc,beq_iff_eq,qe,and_true] at h;obtain ⟨k,i,t⟩:=b;simp only at h;obtain ⟨rfl,rfl,rfl⟩:=h;rfl
theorem zqY {v:Value} (h:zh6 v=true):v.Text.size<=255:=by
 simp only [zh6,Bool.or_eq_true,qc,beq_iff_eq,qe] at h;omega
theorem zO0 {x:At} (h:plA x=true):x.Func=0/\x.Items=[]/\x.Op=0/\x.Bd=⟨0,0,ByteArray.mk #[]⟩:=by
 simp only [plA,qc,beq_iff_eq] at h;exact ⟨h.1.1.1,List.length_eq_zero_iff.1 h.1.1.2,h.1.2,zbaO h.2⟩
theorem zbbQ {r:RowID} (h:rz r=true):r=⟨0,0⟩:=by
 simp only [rz,qc,beq_iff_eq,and_true] at h;obtain ⟨t,s⟩:=r;simp only at h;obtain ⟨rfl,rfl⟩:=h; rfl
inductive VA (V:yB->Bool):At->Prop
 | var (r:RowID) (h:zDs r=true):VA V ⟨0,r,[],0,[],0,⟨0,0,ByteArray.mk #[]⟩⟩
 | mon (a b:yB) (ha:V a=true) (hb:V b=true) (ha0:a≠[]) (hb0:b≠[]) (h:a≠b):VA V ⟨1,⟨0,0⟩,[a,b],0,[],0,⟨0,0,ByteArray.mk #[]⟩⟩
 | del (a:yB) (ha:V a=true) (ha0:a≠[]) (h:isC a=false) (h':isU a=false):VA V ⟨2,⟨0,0⟩,[a],0,[],0,⟨0,0,ByteArray.mk #[]⟩⟩
 | abs (a:yB) (ha:V a=true) (ha0:a≠[]) (h:zzs a=false):VA V ⟨3,⟨0,0⟩,[a],0,[],0,⟨0,0,ByteArray.mk #[]⟩⟩
 | tst (f:Int) (l:yD) (o:Int) (b:Value) (hl:l≠[]) (hi:∀ w∈l,V w.Ann=true/\w.Ann≠[]) (hs:zXL l=true) (hf:zBc f l o b=true):VA V ⟨4,⟨0,0⟩,[],f,l,o,b⟩
theorem zdJ {V:yB->Bool} {x:At}:zd0 V x=true↔VA V x:=by
 constructor
 ·intro h;have hk:=zBC h;obtain ⟨k,r,l,f,its,o,b⟩:=x;simp only at hk;unfold zd0 at h;simp only [qc] at h;obtain ⟨h1,h2⟩:=h
  have ha:∀ a∈l,V a=true/\a≠[]:=λa ha=>by
   have:=List.all_eq_true.1 h1 a ha;simp only [qc,Bool.not_eq_true',beq_eq_false_iff_ne] at this;exact ⟨this.1,λe=>this.2 (by rw [e]; rfl)⟩
  by_cases h0:k=0
  ·subst h0;simp only [if_true,qc,beq_iff_eq] at h2;obtain ⟨e1,e2,e3,e4⟩:=zO0 h2.1.1;simp only at e1 e2 e3 e4;subst e1 e2 e3 e4;obtain rfl:l=[]:=List.length_eq_zero_iff.1 h2.2;exact .var r h2.1.2
  simp only [h0,if_false,qc] at h2;obtain ⟨hr,h2⟩:=h2;have hr':=zbbQ hr;subst hr';by_cases h0':k=1
  ·subst h0';simp only [if_true,qc] at h2;obtain ⟨e1,e2,e3,e4⟩:=zO0 h2.1;simp only at e1 e2 e3 e4;subst e1 e2 e3 e4
   match l,h2.2,ha with
   | [a,b],h3,ha=>exact .mon a b (ha a (by simp)).1 (ha b (by simp)).1 (ha a (by simp)).2 (ha b (by simp)).2 (by simpa [zZ6] using h3)
  simp only [h0',if_false] at h2;by_cases h2':k=2
  ·subst h2';simp only [if_true,qc] at h2;obtain ⟨e1,e2,e3,e4⟩:=zO0 h2.1;simp only at e1 e2 e3 e4;subst e1 e2 e3 e4
   match l,h2.2,ha with
   | [a],h3,ha=>
    simp only [zDB,qc,Bool.not_eq_true'] at h3;exact .del a (ha a (by simp)).1 (ha a (by simp)).2 h3.1 h3.2
  simp only [h2',if_false] at h2;by_cases h3':k=3
  ·subst h3';simp only [if_true,qc] at h2;obtain ⟨e1,e2,e3,e4⟩:=zO0 h2.1;simp only at e1 e2 e3 e4;subst e1 e2 e3 e4
   match l,h2.2,ha with
   | [a],h3,ha=>
    simp only [zDB,Bool.not_eq_true'] at h3;exact .abs a (ha a (by simp)).1 (ha a (by simp)).2 h3
  simp only [h3',if_false] at h2;have h4':k=4:=by omega
  subst h4';simp only [if_true,qc,beq_iff_eq,qe] at h2;obtain ⟨⟨⟨⟨h3,h4⟩,h5⟩,h6⟩,h7⟩:=h2;obtain rfl:l=[]:=List.length_eq_zero_iff.1 h3
  exact .tst f its o b (λe=>by rw [e] at h4; simp at h4) (λw hw=>by
   have:=List.all_eq_true.1 h5 w hw;simp only [qc,Bool.not_eq_true',beq_eq_false_iff_ne] at this;exact ⟨this.1,λe=>this.2 (by rw [e]; rfl)⟩) h6 h7
 ·intro h
  have ne:∀ a:yB,a≠[]->(a.length==0)=false:=λa ha=>by
   rw [beq_eq_false_iff_ne]; exact λe=>ha (List.length_eq_zero_iff.1 e)
  cases h with
  | var r h=>simp [zd0,zoJ,plA,bz,h]
  | mon a b ha hb ha0 hb0 h=>simp [zd0,zoJ,plA,bz,rz,zZ6,ha,hb,ha0,hb0,h]
  | del a ha ha0 h h'=>simp [zd0,zoJ,plA,bz,rz,zDB,ha,ha0,h,h']
  | abs a ha ha0 h=>simp [zd0,zoJ,plA,bz,rz,zDB,ha,ha0,h]
  | tst f l o b hl hi hs hf=>
   have h1:zz3 V l=true:=List.all_eq_true.2 λw hw=>by rw [(hi w hw).1,ne _ (hi w hw).2]; rfl
   have h2:0<l.length:=by
    cases l with
    | nil=>exact absurd rfl hl
    | cons x r=>simp
   simp [zd0,zoJ,rz,h1,hs,hf,h2]
theorem ztt {a:yB} (h:zkm a=true):a.length<=512/\zbq a<=8/\zP a<=4096/\∀ t∈a,t.Fs.length<=64/\∀ f∈t.Fs,f.Exp<=64/\f.At.Items.length<=1024:=by
 simp only [zkm,qc,List.all_eq_true,qe] at h;refine ⟨h.1.1.1,h.1.1.2,h.1.2,λt ht=> ?_⟩
 have:=h.2 t ht;simp only [zyC,Bool.not_eq_true',Bool.or_eq_false_iff,decide_eq_false_iff_not,List.any_eq_false] at this;refine ⟨by omega,λf hf=> ?_⟩
 have h2:=this.2 f hf;simp at h2;omega
theorem zZS {a:yB} {t:Term} (h:t∈a):zcV t.Fs<=zbq a:=by
 induction a with
 | nil=>cases h
 | cons b r ih=>
  rw [zLy];rcases qd.1 h with rfl | h
  ·omega
  ·have:=ih h; omega
theorem zNV {l:yC} {f:Fc} (h:f∈l):zmc f.At<=zcV l:=by
 induction l with
 | nil=>cases h
 | cons b r ih=>
  rw [zrl];rcases qd.1 h with rfl | h
  ·omega
  ·have:=ih h; omega
theorem zL9 {l:yA} {a:yB} (h:a∈l):zbq a<=zkP l:=by
 induction l with
 | nil=>cases h
 | cons b r ih=>
  rw [zAQ];rcases qd.1 h with rfl | h
  ·omega
  ·have:=ih h; omega
theorem z4x {l:yD} {w:Wd} (h:w∈l):zbq w.Ann<=zjY l:=by
 induction l with
 | nil=>cases h
 | cons b r ih=>
  rw [zyJ];rcases qd.1 h with rfl | h
  ·omega
  ·have:=ih h; omega
theorem zqA {f:Int} {l:yD} {o:Int} {b:Value} (h:zBc f l o b=true):(0<=f/\f<=3/\5<=o/\o<=10)/\zh6 b=true/\∀ w∈l,zh6 w.Value=true/\w.Value.Kind=b.Kind:=by
 simp only [zBc,qc,List.all_eq_true,qe] at h;obtain ⟨⟨⟨⟨⟨⟨h1,h2⟩,h3⟩,h4⟩,h5⟩,h6⟩,h7⟩:=h;refine ⟨⟨h1,h2,h3,h4⟩,h5,λw hw=> ?_⟩
 have:=h7 w hw;simp only [zJb,qc,beq_iff_eq] at this;exact this.1
theorem z0g:∀ (m:Nat) (a:yB),zbU m a=true->zG (zbq a+1) a
 | 0,a,h=>by cases h
 | m+1,a,h=>by
  have hw:=ztt (zAa h);refine ⟨by omega,λt ht=> ?_⟩
  obtain ⟨_,hok⟩:=zlr h ht;obtain ⟨h1,h2⟩:=hw.2.2.2 t ht;refine ⟨by omega,λf hf=> ?_⟩
  have hv:=zdJ.1 (ziB hok hf).2;have hn:zmc f.At<=zbq a:=Nat.le_trans (zNV hf) (zZS ht);have h3:=(h2 f hf).2;generalize f.At=x at hv hn h3;rw [zBL] at hn;have ih:∀ b,zbU m b=true->zbq b+1<=zbq a->zG (zbq a) b:=λb hb hl=>(z0g m b hb).mono hl
  cases hv with
  | var r h=>exact ⟨⟨by simp,by simp,by show (ByteArray.mk #[]).size<=_; decide⟩,λa ha=>(by cases ha),λw hw=>(by cases hw)⟩
  | mon b c hb hc _ _ _=>
   simp only at hn;refine ⟨⟨by simp,by simp,by show (ByteArray.mk #[]).size<=_; decide⟩,λy hy=> ?_,λw hw=>(by cases hw)⟩
   have:=zL9 hy;simp only at this;simp only [qd,List.not_mem_nil,or_false] at hy;rcases hy with rfl | rfl
   ·exact ih _ hb (by simp at hn; omega)
   ·exact ih _ hc (by simp at hn; omega)
  | del b hb _ _ _=>
   refine ⟨⟨by simp,by simp,by show (ByteArray.mk #[]).size<=_; decide⟩,λy hy=> ?_,λw hw=>(by cases hw)⟩
   have:=zL9 hy;simp only at this;simp only [qd,List.not_mem_nil,or_false] at hy;subst hy;exact ih _ hb (by simp at hn; omega)
  | abs b hb _ _=>
   refine ⟨⟨by simp,by simp,by show (ByteArray.mk #[]).size<=_; decide⟩,λy hy=> ?_,λw hw=>(by cases hw)⟩
   have:=zL9 hy;simp only at this;simp only [qd,List.not_mem_nil,or_false] at hy;subst hy;exact ih _ hb (by simp at hn; omega)
  | tst fn l o b hl hi hs hf=>
   obtain ⟨_,hb,hit⟩:=zqA hf;refine ⟨⟨by simp,by simp only at h3 ⊢; omega,by have:=zqY hb; simp only; omega⟩,λy hy=>(by cases hy),λw hw=>⟨by have:=zqY (hit w hw).1; omega, ?_⟩⟩
   have:=z4x hw;simp only at this;exact ih _ (hi w hw).1 (by simp at hn; omega)
theorem zen {m:Nat} {a:yB} (h:zbU m a=true):zG 9 a/\zP a<=4096/\a.length<=512:=by
 cases m with
 | zero=>cases h
 | succ m=>
 have hw:=ztt (zAa h);exact ⟨(z0g _ a h).mono (by omega),hw.2.2.1,hw.1⟩
theorem z2I {d m m':Nat} {a:yB} (h:zG d a) (hd:d<=100) (h1:d<=m) (h2:d<=m') (hs:zP a<=4611686018427387904):zbU m a=zbU m' a:=by
 have e1:=(zKf 1000).1 d m a h (by omega) h1 hd hs
 have e2:=(zKf 1000).1 d m' a h (by omega) h2 hd hs
 rw [e1] at e2;exact (Prod.mk.injEq _ _ _ _ ▸ e2).2
theorem z9A {m:Nat} {a:yB} (h:zbU m a=true) (hm:9<=m):zcx a=true:=by
 obtain ⟨h1,h2,h3⟩:=zen h;rw [<- h]; exact z2I h1 (by omega) (by omega) hm (by omega)
theorem z4P {m:Nat} {a:yB} (h:zcx a=true) (hm:9<=m):zbU m a=true:=by
 obtain ⟨h1,h2,h3⟩:=zen h;rw [<- h]; exact z2I h1 (by omega) hm (by omega) (by omega)
theorem VA.imp {V V':yB->Bool} (hV:∀ a,V a=true->V' a=true) {x:At} (h:VA V x):VA V' x:=by
 cases h with
 | var r h=>exact .var r h
 | mon a b ha hb ha0 hb0 h=>exact .mon a b (hV a ha) (hV b hb) ha0 hb0 h
 | del a ha ha0 h h'=>exact .del a (hV a ha) ha0 h h'
 | abs a ha ha0 h=>exact .abs a (hV a ha) ha0 h
 | tst f l o b hl hi hs hf=>exact .tst f l o b hl (λw hw=>⟨hV _ (hi w hw).1,(hi w hw).2⟩) hs hf
def zA4 (x:At):Bool:=zd0 zcx x
theorem z8u {m:Nat} (hm:9<=m):zd0 (zbU m)=zA4:=by
 funext x
 rw [Bool.eq_iff_iff];unfold zA4;rw [zdJ,zdJ];exact ⟨VA.imp λa h=>z9A h hm,VA.imp λa h=>z4P h hm⟩
theorem zZM (a:yB):zcx a=zxZ zA4 a:=by
 show zxZ (zd0 (zbU 99)) a=_;rw [z8u (by omega)]
section
variable (g:yB->Bool×yB) (gx:At->Bool×At)
end
end Go.Proofs.YtoknknbmfmddbaaGreatDoor
end
