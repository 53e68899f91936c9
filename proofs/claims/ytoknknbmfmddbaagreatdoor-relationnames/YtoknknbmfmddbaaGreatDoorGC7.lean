/- Texts of this claim, joined (the program, its functions in plain words, and what they compute). -/
import Derived.Test.YtoknknbmfmddbaaGreatDoorGC6
set_option autoImplicit false
set_option linter.unusedVariables false
set_option linter.unusedSectionVars false
set_option linter.unusedSimpArgs false
set_option maxRecDepth 1000000
set_option maxHeartbeats 0
/- The reference's comparison of annotations is the order of trees. -/
noncomputable section
namespace Go.Proofs.YtoknknbmfmddbaaGreatDoor
open Go Go.Ab
theorem zXY (s:ByteArray):∀ (n i:Nat) (r:List UInt8),s.size<=i+n->ByteArray.toList.loop s i r=r.reverse++s.data.toList.drop i
 | 0,i,r,h=>by
  rw [ByteArray.toList.loop,if_neg (by omega),List.drop_eq_nil_of_le (by rw [<- Lib.size_eq]; omega),List.append_nil]
 | n+1,i,r,h=>by
  rw [ByteArray.toList.loop];by_cases hi:i<s.size
  ·have hi':i<s.data.toList.length:=by rw [<- Lib.size_eq]; exact hi
   rw [if_pos hi,zXY s n (i+1) _ (by omega),List.drop_eq_getElem_cons hi',List.reverse_cons,List.append_assoc]
   congr 1
   have:s.get! i=s.data.toList[i]:=by
    have h':i<s.data.size:=hi;show s.data[i]! =s.data.toList[i];rw [getElem!_pos s.data i h']; rfl
   rw [this]; rfl
  ·rw [if_neg hi,List.drop_eq_nil_of_le (by rw [<- Lib.size_eq]; omega),List.append_nil]
theorem toList_eq (s:ByteArray):s.toList=s.data.toList:=by
 rw [ByteArray.toList,zXY s s.size 0 [] (by omega)]; rfl
theorem zFr {s t:ByteArray} (h:s.data.toList=t.data.toList):s=t:=by
 cases s; cases t;congr 1;exact Array.toList_inj.1 h
theorem z9G (s t:ByteArray):(s.toList==t.toList)=decide (s.data.toList=t.data.toList):=by
 rw [toList_eq,toList_eq];cases hb:(s.data.toList==t.data.toList) with
 | true=>rw [decide_eq_true (beq_iff_eq.1 hb)]
 | false=>rw [decide_eq_false (λh=>by rw [beq_iff_eq.2 h] at hb; cases hb)]
theorem zBh (s t:ByteArray):(s.toList==t.toList)=decide (s=t):=by
 rw [z9G];by_cases h:s=t
 ·rw [decide_eq_true h,decide_eq_true (by rw [h])]
 ·rw [decide_eq_false h,decide_eq_false λe=>h (zFr e)]
theorem zsY (z w:Int):(z != w)= !decide (z=w):=by by_cases h:z=w <;>simp [h]
theorem zRU:∀ a b:List UInt8,Op.bytesLess a b=decide (Lib.compareBytes a b<0)
 | [],[]=>by simp [Op.bytesLess,Lib.compareBytes]
 | _::_,[]=>by simp [Op.bytesLess,Lib.compareBytes]
 | [],_::_=>by simp [Op.bytesLess,Lib.compareBytes]
 | x::a,y::b=>by
  simp only [Op.bytesLess,Lib.compareBytes];by_cases p:x<y
  ·simp [p]
  ·by_cases q:y<x
   ·have hne:¬ x=y:=λe=>by subst e; exact p q
    simp [p,q,hne]
   ·have he:x=y:=UInt8.toNat_inj.1 (by rw [UInt8.lt_iff_toNat_lt] at p q; omega)
    subst he;simp [p,zRU a b]
theorem zAa (a b:Value):zjb a b=(true,zbb (trV a) (trV b)):=by
 unfold zjb zLn zr1 zTF;rw [zBh,toList_eq,toList_eq,zRU,z83];simp only [trV,zbb,zbs,zdX];simp only [Wy.fin_i,Wy.fin_bn,Wy.fin_k,cond_true,zsY];by_cases h1:a.Kind=b.Kind
 ·by_cases h2:a.Int=b.Int
  ·by_cases h3:a.Text=b.Text
   ·simp [h1,h2,h3,zBc]
   ·have h4:zbb (trB a.Text) (trB b.Text)≠0:=λe=>by
     have:=zGs _ _ (TT.l.inj (zry _ _ e));exact h3 (zFr this)
    have h5:=z7K (trB a.Text) (trB b.Text);simp only [trB,zbb] at h4 h5;simp only [trB,zbb];rcases h5 with h5 | h5 | h5
    ·simp [h1,h2,h3,h5]
    ·exact absurd h5 h4
    ·simp [h1,h2,h3,h5]
  ·by_cases h3:a.Int<b.Int
   ·simp [h1,h2,h3]
   ·simp [h1,h2,h3,show b.Int<a.Int by omega]
 ·by_cases h3:a.Kind<b.Kind
  ·simp [h1,h3]
  ·simp [h1,h3,show b.Kind<a.Kind by omega]
theorem znc (x y:Int):zcH x y=(true,zdX x y):=by
 unfold zcH zOn zdX;by_cases h1:x<y
 ·simp [h1,Wy.fin_i,Wy.fin_k]
 ·by_cases h2:y<x <;>simp [h1,h2,Wy.fin_i,Wy.fin_k]
theorem zSu (x y:RowID):zp9 x y=(true,if zdX x.Table y.Table=0 then zdX x.Seq y.Seq else zdX x.Table y.Table):=by
 unfold zp9 zE3;simp only [znc,Wy.fin_i,Wy.fin_bn,Wy.fin_k,cond_true,zsY];by_cases h:zdX x.Table y.Table=0
 ·simp [h]
 ·simp [h]
section
variable {α:Type} [Inhabited α]
def z5C (p q:α->α->Bool×Int) (a:List α) (b:List α) (i:Int):Wy (List α×List α×Int×Unit) Unit (Int⊕(List α×List α)):=.i (decide (i<Int.ofNat a.length)) (.i (decide (i<Int.ofNat b.length)) (.i (decide ((0:Int)<=i)&&decide (i<Int.ofNat a.length)) (.i (decide ((0:Int)<=i)&&decide (i<Int.ofNat b.length)) (.bn (p (a.getD i.toNat default) (b.getD i.toNat default)) λr1=>.i (r1 != (0:Int)) (.k (.inl (r1))) (.i (decide ((0:Int)<=i)&&decide (i<Int.ofNat a.length)) (.i (decide ((0:Int)<=i)&&decide (i<Int.ofNat b.length)) (.bn (q (a.getD i.toNat default) (b.getD i.toNat default)) λr0=>.i (r0 != (0:Int)) (.k (.inl (r0))) (.h (a,b,(IntKind.i64.wrap (i+(1:Int))),()) ())) .d) .d)) .d) .d) (.k (.inr (a,b)))) (.k (.inr (a,b)))
def z9Y (p q:α->α->Bool×Int) (x:List α×List α×Int×Unit) (y:Unit):Wy (List α×List α×Int×Unit) Unit (Int⊕(List α×List α)):=z5C p q x.1 x.2.1 x.2.2.1
def zbau (p q:α->α->Bool×Int) (n:Nat) (a:List α) (b:List α) (i:Int):Bool×(Int⊕(List α×List α)):=zA (z9Y p q) (.inl default) n (a,b,i,()) ()
def RG (p q:α->α->Bool×Int) (a b:List α):Bool×Int:=(.bn (zbau p q (a.length+b.length+Int.toNat (0:Int)+(1:Nat)) a b (0:Int)) λr5=>.i (isL r5) (.k (getL r5)) (.bn (zcH (Int.ofNat (getR r5).fst.length) (Int.ofNat (getR r5).snd.length)) λr4=>.k r4):Wy0 Int).fin default
theorem z81 (p q:α->α->Bool×Int) (c1 c2:α->α->Int) (a b:List α) (ha:a.length<=1000000) (hp:∀ x∈a,∀ y∈b,p x y=(true,c1 x y)) (hq:∀ x∈a,∀ y∈b,q x y=(true,c2 x y)):∀ (n i:Nat),a.length<i+n->i<=a.length->i<=b.length->
  ∃ r,zbau p q n a b i=(true,r)/\((r=.inl (zws (λx y=>if c1 x y=0 then c2 x y else c1 x y) (a.drop i) (b.drop i)))\/(r=.inr (a,b)/\zws (λx y=>if c1 x y=0 then c2 x y else c1 x y) (a.drop i) (b.drop i)=zdX a.length b.length))
 | 0,i,h,h2,h3=>by omega
 | n+1,i,h,h2,h3=>by
  show ∃ r,(z5C p q a b i).ev (λx y=>zbau p q n x.1 x.2.1 x.2.2.1) (λr=>(true,r)) (false,.inl default)=(true,r)/\_
  unfold z5C;by_cases hi:i<a.length
  ·by_cases hi':i<b.length
   ·simp only [Wy.ev_i,Wy.ev_k,Wy.ev_h,Wy.ev_bn,Wy.ev_d,tT,hi,hi',hp _ (zn hi) _ (zn hi'),hq _ (zn hi) _ (zn hi')];rw [zbf hi,zbf hi',zD (by omega)]
    simp only [zws];generalize c1 (a.getD i default) (b.getD i default)=z1;generalize c2 (a.getD i default) (b.getD i default)=z2;by_cases hx:z1=0
    ·have e:(z1 != 0)=false:=by simp [hx]
     by_cases hx2:z2=0
     ·have e2:(z2 != 0)=false:=by simp [hx2]
      simp only [e,e2,cond_false,hx,hx2,if_true];exact z81 p q c1 c2 a b ha hp hq n (i+1) (by omega) (by omega) (by omega)
     ·have e2:(z2 != 0)=true:=by simp [hx2]
      simp only [e,e2,cond_false,cond_true,hx,hx2,if_true,if_false];exact ⟨_,rfl,.inl rfl⟩
    ·have e:(z1 != 0)=true:=by simp [hx]
     simp only [e,cond_true,hx,if_false];exact ⟨_,rfl,.inl rfl⟩
   ·simp only [Wy.ev_i,Wy.ev_k,Wy.ev_h,Wy.ev_bn,Wy.ev_d,tT,hi,hi'];refine ⟨_,rfl,.inr ⟨rfl, ?_⟩⟩;rw [zbf hi,zce hi'];unfold zdX; rw [if_neg (by omega),if_pos (by omega)]; rfl
  ·simp only [Wy.ev_i,Wy.ev_k,Wy.ev_h,Wy.ev_bn,Wy.ev_d,tT,hi];refine ⟨_,rfl,.inr ⟨rfl, ?_⟩⟩;rw [zce hi];by_cases hi':i<b.length
   ·rw [zbf hi']; unfold zdX; rw [if_pos (by omega)]; rfl
   ·rw [zce hi']; unfold zdX; rw [if_neg (by omega),if_neg (by omega)]; rfl
theorem zbgN (p q:α->α->Bool×Int) (c1 c2:α->α->Int) (a b:List α) (ha:a.length<=1000000) (hp:∀ x∈a,∀ y∈b,p x y=(true,c1 x y)) (hq:∀ x∈a,∀ y∈b,q x y=(true,c2 x y)):RG p q a b=(true,zws (λx y=>if c1 x y=0 then c2 x y else c1 x y) a b):=by
 unfold RG;obtain ⟨r,h1,h2⟩:=z81 p q c1 c2 a b ha hp hq (a.length+b.length+Int.toNat 0+1) 0 (by simp; omega) (by omega) (by omega)
 rw [show ((0:Nat):Int)=(0:Int) from rfl] at h1
 rw [Wy.fin_bn,h1];simp only [List.drop_zero] at h2;rcases h2 with rfl | ⟨rfl,h2⟩
 ·rfl
 ·rw [h2];simp only [Wy.fin_i,Wy.fin_k,Wy.fin_bn,znc,tT,isL,getR]
end
theorem z2Z {α:Type} [Inhabited α] (e:α->TT) (p q:α->α->Bool×Int) (c1 c2:α->α->Int) (a b:List α) (ha:a.length<=1000000) (hp:∀ x∈a,∀ y∈b,p x y=(true,c1 x y)) (hq:∀ x∈a,∀ y∈b,q x y=(true,c2 x y))
  (hc:∀ x y,(if c1 x y=0 then c2 x y else c1 x y)=zbb (e x) (e y)):RG p q a b=(true,zbs (a.map e) (b.map e)):=by
 rw [zbgN p q c1 c2 a b ha hp hq,zLg e a b λx _ y _=>hc x y]
theorem zbca (g):zwY g=RG (λx y=>g x.Fs y.Fs) (λx y=>zcH x.Cf y.Cf):=rfl
theorem z93 (g):zi4 g=RG (λx y=>g x.At y.At) (λx y=>zcH x.Exp y.Exp):=by
 have h:zjM g=z9Y (λx y=>g x.At y.At) (λx y=>zcH x.Exp y.Exp):=by
  funext x y
  unfold zjM zwV z9Y z5C;rw [At.eta,At.eta]
 funext a b
 unfold zi4 zxN zwS;rw [h]; rfl
theorem zbcq (g):zoZ g=RG (λx y=>zjb x.Value y.Value) (λx y=>g x.Ann y.Ann):=rfl
theorem z3A (gI) (g:yB->yB->Bool×Int) (a b:At) (ha:a.Ag.length<=1000000) (hg:∀ x∈a.Ag,∀ y∈b.Ag,g x y=(true,zbs (zdi x) (zdi y))):∀ (n i:Nat),a.Ag.length<i+n->i<=a.Ag.length->i<=b.Ag.length->
  ∃ r,zsR g gI n i a b=(true,r)/\((r=.inl (zws (λx y=>zbs (zdi x) (zdi y)) (a.Ag.drop i) (b.Ag.drop i))/\zws (λx y=>zbs (zdi x) (zdi y)) (a.Ag.drop i) (b.Ag.drop i)≠0)\/(r=.inr (a,b)/\zws (λx y=>zbs (zdi x) (zdi y)) (a.Ag.drop i) (b.Ag.drop i)=zdX a.Ag.length b.Ag.length))
 | 0,i,h,h2,h3=>by omega
 | n+1,i,h,h2,h3=>by
  show ∃ r,(zsZ g gI i a b).ev (λx y=>zsR g gI n x.2.2.1 y.1 y.2.1) (λr=>(true,r)) (false,.inl default)=(true,r)/\_
  unfold zsZ;by_cases hi:i<a.Ag.length
  ·by_cases hi':i<b.Ag.length
   ·simp only [Wy.ev_i,Wy.ev_k,Wy.ev_h,Wy.ev_bn,Wy.ev_d,tT,hi,hi',hg _ (zn hi) _ (zn hi')];rw [zbf hi,zbf hi',zD (by omega)]
    simp only [zws];generalize zbs (zdi (a.Ag.getD i default)) (zdi (b.Ag.getD i default))=z1;by_cases hx:z1=0
    ·have e:(z1 != 0)=false:=by simp [hx]
     simp only [e,cond_false,hx,if_true];exact z3A gI g a b ha hg n (i+1) (by omega) (by omega) (by omega)
    ·have e:(z1 != 0)=true:=by simp [hx]
     simp only [e,cond_true,hx,if_false];exact ⟨_,rfl,.inl ⟨rfl,hx⟩⟩
   ·simp only [Wy.ev_i,Wy.ev_k,Wy.ev_h,Wy.ev_bn,Wy.ev_d,tT,hi,hi'];refine ⟨_,rfl,.inr ⟨rfl, ?_⟩⟩;rw [zbf hi,zce hi'];unfold zdX; rw [if_neg (by omega),if_pos (by omega)]; rfl
  ·simp only [Wy.ev_i,Wy.ev_k,Wy.ev_h,Wy.ev_bn,Wy.ev_d,tT,hi];refine ⟨_,rfl,.inr ⟨rfl, ?_⟩⟩;rw [zce hi];by_cases hi':i<b.Ag.length
   ·rw [zbf hi']; unfold zdX; rw [if_pos (by omega)]; rfl
   ·rw [zce hi']; unfold zdX; rw [if_neg (by omega),if_neg (by omega)]; rfl
theorem zbey (gI) (g:yB->yB->Bool×Int) (x y:At) (ha:x.Ag.length<=1000000) (hg:∀ a∈x.Ag,∀ b∈y.Ag,g a b=(true,zbs (zdi a) (zdi b)))
  (hI:gI x.Items y.Items=(true,zbs (zhg x.Items) (zhg y.Items))):zlr g gI x y=(true,zbb (zdN x) (zdN y)):=by
 unfold zlr zBe;rw [At.eta,At.eta];obtain ⟨r,h1,h2⟩:=z3A gI g x y ha hg (Int.toNat 0+x.Ag.length+x.Items.length+y.Ag.length+y.Items.length+1) 0 (by omega) (by omega) (by omega)
 rw [show ((0:Nat):Int)=(0:Int) from rfl] at h1
 simp only [List.drop_zero] at h2;rw [zLg (λa=>TT.l (zdi a)) x.Ag y.Ag (λa _ b _=>by simp only [zbb]), <- zCy, <- zCy] at h2
 simp only [znc,zSu,Wy.fin_bn,Wy.fin_i,Wy.fin_k,cond_true,h1];obtain ⟨k,r0,a,f,i,o,v⟩:=x; obtain ⟨k',r',a',f',i',o',v'⟩:=y;simp only [zdN,zbb,zbs,zsY] at *;by_cases e1:zdX k k'=0
 rotate_left
 ·simp [e1]
 by_cases e2:zdX r0.Table r'.Table=0
 rotate_left
 ·simp [e1,e2]
 by_cases e3:zdX r0.Seq r'.Seq=0
 rotate_left
 ·simp [e1,e2,e3]
 rcases h2 with ⟨rfl,h2⟩ | ⟨rfl,h2⟩
 ·simp [e1,e2,e3,h2,isL,getL]
 simp only [e1,e2,e3,h2,isL,getR,tT,hI,if_true];by_cases e4:zdX (a.length:Int) (a'.length:Int)=0
 rotate_left
 ·simp [e4]
 by_cases e5:zdX f f'=0
 rotate_left
 ·simp [e4,e5]
 by_cases e6:zbs (zhg i) (zhg i')=0
 rotate_left
 ·simp [e4,e5,e6]
 by_cases e7:zdX o o'=0
 rotate_left
 ·simp [e4,e5,e6,e7]
 simp [e4,e5,e6,e7,zAa]
theorem zIC:∀ n,
  (∀ d a b,zo d a->10*d<=n->zne n a b=(true,zbs (zdi a) (zdi b)))/\
  (∀ d l l',zgu (zo d) l->10*d+10<=n+1->zi3 n l l'=(true,zbs (zbv l) (zbv l')))/\
  (∀ d x y,zc0 (zo d) x->10*d+10<=n+2->zlg n x y=(true,zbb (zdN x) (zdN y)))/\
  (∀ d a b,a.length<=1000000->(∀ x∈a,zo d x.Ann)->10*d+10<=n+3->zkq n a b=(true,zbs (zhg a) (zhg b)))
 | 0=>by
  refine ⟨?_, ?_, ?_, ?_⟩
  ·intro d a b h hd; have:d=0:=by omega
   subst this; exact h.elim
  all_goals (intros; omega)
 | n+1=>by
  obtain ⟨h1,h2,h3,h4⟩:=zIC n;refine ⟨?_, ?_, ?_, ?_⟩
  ·intro d a b h hd;cases d with
   | zero=>exact h.elim
   | succ d=>
    rw [zVN,zbca,zER,zER]
    exact z2Z zxF _ _ (λx y=>zbs (zbv x.Fs) (zbv y.Fs)) (λx y=>zdX x.Cf y.Cf) a b h.1 (λx hx y hy=>h2 d _ _ (h.2 x hx) (by omega)) (λx _ y _=>znc _ _) λx y=>by
     obtain ⟨c,l⟩:=x; obtain ⟨c',l'⟩:=y;simp only [zxF,zbb,zbs];by_cases e:zdX c c'=0 <;>simp [e]
  ·intro d l l' h hd;rw [zHF,z93,zvz,zvz]
   exact z2Z zqf _ _ (λx y=>zbb (zdN x.At) (zdN y.At)) (λx y=>zdX x.Exp y.Exp) l l' h.1 (λx hx y hy=>h3 d _ _ (h.2 x hx) (by omega)) (λx _ y _=>znc _ _) λx y=>by
    obtain ⟨c,l⟩:=x; obtain ⟨c',l'⟩:=y;simp only [zqf,zbb,zbs];by_cases e:zdX l l'=0 <;>simp [e]
  ·intro d x y h hd;rw [zMj];exact zbey _ _ x y h.1.1 (λa ha b _=>h1 d a b (h.2.1 a ha) (by omega)) (h4 d _ _ h.1.2.1 (λw hw=>(h.2.2 w hw).2) (by omega))
  ·intro d a b h0 h hd;rw [zKp,zbcq,zl0,zl0]
   exact z2Z zbc _ _ (λx y=>zbb (trV x.Value) (trV y.Value)) (λx y=>zbs (zdi x.Ann) (zdi y.Ann)) a b h0 (λx _ y _=>zAa _ _) (λx hx y _=>h1 d _ _ (h x hx) (by omega)) λx y=>by
    obtain ⟨c,l⟩:=x; obtain ⟨c',l'⟩:=y;simp only [zbc,zbb,zbs];by_cases e:zbs (zdi l) (zdi l')=0 <;>simp [e]
theorem zZC {d:Nat} {a:yB} (h:zo d a) (hd:d<=100) (b:yB):zGq a b=(true,zbs (zdi a) (zdi b)):=(zIC 1000).1 d a b h (by omega)
theorem zq7 {d:Nat} {l:yC} (h:zgu (zo d) l) (hd:d<=99) (l':yC):zkl l l'=(true,zbs (zbv l) (zbv l')):=(zIC 1000).2.1 d l l' h (by omega)
theorem zuH {d:Nat} {x:At} (h:zc0 (zo d) x) (hd:d<=99) (y:At):zkJ x y=(true,zbb (zdN x) (zdN y)):=(zIC 1000).2.2.1 d x y h (by omega)
theorem zAV {d:Nat} {a:yD} (h0:a.length<=1000000) (h:∀ x∈a,zo d x.Ann) (hd:d<=99) (b:yD):zrR a b=(true,zbs (zhg a) (zhg b)):=(zIC 1000).2.2.2 d a b h0 h (by omega)
theorem zGK {d:Nat} {a:yB} (h:zo d a) (hd:d<=100) (b:yB):zoS a b=(true,decide (a=b)):=by
 unfold zoS zUv;rw [Wy.fin_bn,zZC h hd];simp only [cond_true,Wy.fin_k];congr 1;by_cases e:a=b
 ·subst e; rw [zVu]; simp
 ·have:zbs (zdi a) (zdi b)≠0:=λh=>e (zFh _ _ (zH5 _ _ h))
  simp [e,this]
def zeo (c:Nat->Bool):Nat->Nat->Bool
 | 0,_=>true
 | n+1,i=>c i&&zeo c n (i+1)
theorem zdP {c:Nat->Bool}:∀ {n i},zeo c n i=true↔∀ k,i<=k->k<i+n->c k=true
 | 0,i=>⟨λ_ k h1 h2=>by omega,λ_=>rfl⟩
 | n+1,i=>by
  simp only [zeo,qc,zdP (n:=n)];constructor
  ·rintro ⟨h1,h2⟩ k h3 h4
   by_cases e:k=i
   ·rw [e]; exact h1
   ·exact h2 k (by omega) (by omega)
  ·intro h;exact ⟨h i (by omega) (by omega),λk h1 h2=>h k (by omega) (by omega)⟩
theorem z7s (c c':Nat->Bool):∀ n i,zeo (λk=>c k&&c' k) n i=(zeo c n i&&zeo c' n i)
 | 0,_=>rfl
 | n+1,i=>by
  simp only [zeo,z7s c c' n (i+1)];cases c i <;>cases c' i <;>simp
theorem z7c {τ:Type} [Inhabited τ] (p:τ->Bool) (l:List τ):∀ n i,i+n=l.length->zeo (λk=>p (l.getD k default)) n i=(l.drop i).all p
 | 0,i,h=>by rw [zce (by omega)]; rfl
 | n+1,i,h=>by
  rw [zbf (by omega),List.all_cons]
  simp only [zeo,z7c p l n (i+1) (by omega)]
theorem zxq {τ:Type} [Inhabited τ] (p:τ->Bool) (l:List τ):zeo (λk=>p (l.getD k default)) l.length 0=l.all p:=by
 rw [z7c p l _ _ (by omega),List.drop_zero]
section
variable {α β ρ:Type}
theorem z7t {W:α->β->Wy α β ρ} {z:ρ} (N:Nat) (ex:Nat->α) (ey:Nat->β) (c:Nat->Bool) (no yes:ρ)
  (h:∀ i,i<N->∀ (H:α->β->Bool×ρ) K D,(W (ex i) (ey i)).ev H K D=bif c i then H (ex (i+1)) (ey (i+1)) else K no)
  (he:∀ (H:α->β->Bool×ρ) K D,(W (ex N) (ey N)).ev H K D=K yes):
  ∀ n i,N<i+n->i<=N->zA W z n (ex i) (ey i)=(true,bif zeo c (N - i) i then yes else no)
 | 0,i,h1,h2=>by omega
 | n+1,i,h1,h2=>by
  show (W (ex i) (ey i)).ev (zA W z n) (λr=>(true,r)) (false,z)=_
  by_cases hi:i<N
  ·rw [h i hi,show N - i=(N - (i+1))+1 by omega]
   simp only [zeo];cases c i with
   | false=>rfl
   | true=>rw [cond_true,z7t N ex ey c no yes h he n (i+1) (by omega) (by omega)]; rfl
  ·have:i=N:=by omega
   subst this;rw [he,Nat.sub_self]; rfl
theorem zcY {W:α->β->Wy α β ρ} {z:ρ} (N:Nat) (ex:Nat->α) (ey:Nat->β) (c:Nat->Bool) (no yes:ρ)
  (h:∀ i,i<N->∀ (H:α->β->Bool×ρ) K D,(W (ex i) (ey i)).ev H K D=bif c i then H (ex (i+1)) (ey (i+1)) else K no)
  (he:∀ (H:α->β->Bool×ρ) K D,(W (ex N) (ey N)).ev H K D=K yes) (n:Nat) (hn:N<n):zA W z n (ex 0) (ey 0)=(true,bif zeo c N 0 then yes else no):=by
 have:=z7t (z:=z) N ex ey c no yes h he n 0 (by omega) (by omega)
 simpa using this
end
def ixf {α:Type} (p:α->Bool):List α->Nat->Int
 | [],_=> -1
 | x::r,i=>bif p x then (i:Int) else ixf p r (i+1)
theorem z80 {α:Type} (p:α->Bool):∀ (l:List α) (i:Nat),decide (ixf p l i≥(0:Int))=l.any p
 | [],i=>by simp [ixf]
 | x::r,i=>by
  rw [List.any_cons];cases h:p x with
  | true=>simp [ixf,h]
  | false=>simpa [ixf,h] using z80 p r (i+1)
section
variable {α γ:Type} [Inhabited α]
def z5B (p:γ->α->Bool×Bool) (s:List α) (g:γ) (t7:Int) (t8:Int):Wy (List α×γ×Int×Int×Unit) Unit (Int⊕Unit):=.i (decide (t8<t7)) (.i (decide ((0:Int)<=t8)&&decide (t8<Int.ofNat s.length)) (.bn (p g (s.getD t8.toNat default)) λr0=>.i (r0) (.k (.inl t8)) (.h (s,g,t7,(IntKind.i64.wrap (t8+(1:Int))),()) ())) .d) (.k (.inr ()))
def z99 (p:γ->α->Bool×Bool) (x:List α×γ×Int×Int×Unit) (y:Unit):Wy (List α×γ×Int×Int×Unit) Unit (Int⊕Unit):=z5B p x.1 x.2.1 x.2.2.1 x.2.2.2.1
def zbaF (p:γ->α->Bool×Bool) (n:Nat) (s:List α) (g:γ) (t7:Int) (t8:Int):Bool×(Int⊕Unit):=zA (z99 p) (.inl default) n (s,g,t7,t8,()) ()
def IG (p:γ->α->Bool×Bool) (n:Nat) (g:γ) (s:List α):Bool×Int:=(.bn (zbaF p n s g (Int.ofNat s.length) (0:Int)) λr2=>.i (isL r2) (.k (getL r2)) (.k (-1:Int)):Wy0 Int).fin default
def zbak (p:γ->α->Bool×Bool) (s:List α) (g:γ) (t7:Int) (t8:Int):Wy (List α×γ×Int×Int×Unit) Unit (Int⊕Unit):=.i (decide (t8<t7)) (.i (decide ((0:Int)<=t8)&&decide (t8<Int.ofNat s.length)) (.i ((p g (s.getD t8.toNat default)).snd) (.k (.inl t8)) (.h (s,g,t7,(IntKind.i64.wrap (t8+(1:Int))),()) ())) .d) (.k (.inr ()))
def zbgl (p:γ->α->Bool×Bool) (x:List α×γ×Int×Int×Unit) (y:Unit):Wy (List α×γ×Int×Int×Unit) Unit (Int⊕Unit):=zbak p x.1 x.2.1 x.2.2.1 x.2.2.2.1
def zbaH (p:γ->α->Bool×Bool) (n:Nat) (s:List α) (g:γ) (t7:Int) (t8:Int):Bool×(Int⊕Unit):=zA (zbgl p) (.inl default) n (s,g,t7,t8,()) ()
def IH (p:γ->α->Bool×Bool) (n:Nat) (g:γ) (s:List α):Bool×Int:=(.bn (zbaH p n s g (Int.ofNat s.length) (0:Int)) λr2=>.i (isL r2) (.k (getL r2)) (.k (-1:Int)):Wy0 Int).fin default
theorem z85 (p:γ->α->Bool×Bool) (P:α->Bool) (g:γ) (s:List α) (hs:s.length<=1000000000) (hp:∀ x∈s,p g x=(true,P x)):∀ (n i:Nat),s.length<i+n->i<=s.length->
  ∃ r,zbaF p n s g s.length i=(true,r)/\((r=.inl (ixf P (s.drop i) i))\/(r=.inr ()/\ixf P (s.drop i) i= -1))
 | 0,i,h,h2=>by omega
 | n+1,i,h,h2=>by
  show ∃ r,(z5B p s g s.length i).ev (λx y=>zbaF p n x.1 x.2.1 x.2.2.1 x.2.2.2.1) (λr=>(true,r)) (false,.inl default)=(true,r)/\_
  unfold z5B;by_cases hi:i<s.length
  ·simp only [Wy.ev_i,Wy.ev_k,Wy.ev_h,Wy.ev_bn,Wy.ev_d,tT,hi,hp _ (zn hi)];rw [zbf hi,zD (by omega)]
   simp only [ixf];cases P (s.getD i default) with
   | true=>exact ⟨_,rfl,.inl rfl⟩
   | false=>exact z85 p P g s hs hp n (i+1) (by omega) (by omega)
  ·simp only [Wy.ev_i,Wy.ev_k,Wy.ev_h,Wy.ev_bn,Wy.ev_d,tT,hi,zce hi];exact ⟨_,rfl,.inr ⟨rfl,rfl⟩⟩
theorem zH3 (p:γ->α->Bool×Bool) (P:α->Bool) (n:Nat) (g:γ) (s:List α) (hs:s.length<=1000000000) (hp:∀ x∈s,p g x=(true,P x)) (hn:s.length<n):IG p n g s=(true,ixf P s 0):=by
 unfold IG;obtain ⟨r,h1,h2⟩:=z85 p P g s hs hp n 0 (by omega) (by omega)
 rw [show ((0:Nat):Int)=(0:Int) from rfl] at h1
 rw [Wy.fin_bn,show Int.ofNat s.length=(s.length:Int) from rfl,h1]
 rw [List.drop_zero] at h2;rcases h2 with rfl | ⟨rfl,h2⟩
 ·rfl
 ·rw [h2]; rfl
theorem z9d (p:γ->α->Bool×Bool) (P:α->Bool) (g:γ) (s:List α) (hs:s.length<=1000000000) (hp:∀ x∈s,p g x=(true,P x)):∀ (n i:Nat),s.length<i+n->i<=s.length->
  ∃ r,zbaH p n s g s.length i=(true,r)/\((r=.inl (ixf P (s.drop i) i))\/(r=.inr ()/\ixf P (s.drop i) i= -1))
 | 0,i,h,h2=>by omega
 | n+1,i,h,h2=>by
  show ∃ r,(zbak p s g s.length i).ev (λx y=>zbaH p n x.1 x.2.1 x.2.2.1 x.2.2.2.1) (λr=>(true,r)) (false,.inl default)=(true,r)/\_
  unfold zbak;by_cases hi:i<s.length
  ·simp only [Wy.ev_i,Wy.ev_k,Wy.ev_h,Wy.ev_bn,Wy.ev_d,tT,hi,hp _ (zn hi)];rw [zbf hi,zD (by omega)]
   simp only [ixf];cases P (s.getD i default) with
   | true=>exact ⟨_,rfl,.inl rfl⟩
   | false=>exact z9d p P g s hs hp n (i+1) (by omega) (by omega)
  ·simp only [Wy.ev_i,Wy.ev_k,Wy.ev_h,Wy.ev_bn,Wy.ev_d,tT,hi,zce hi];exact ⟨_,rfl,.inr ⟨rfl,rfl⟩⟩
theorem zbaG (p:γ->α->Bool×Bool) (P:α->Bool) (n:Nat) (g:γ) (s:List α) (hs:s.length<=1000000000) (hp:∀ x∈s,p g x=(true,P x)) (hn:s.length<n):IH p n g s=(true,ixf P s 0):=by
 unfold IH;obtain ⟨r,h1,h2⟩:=z9d p P g s hs hp n 0 (by omega) (by omega)
 rw [show ((0:Nat):Int)=(0:Int) from rfl] at h1
 rw [Wy.fin_bn,show Int.ofNat s.length=(s.length:Int) from rfl,h1]
 rw [List.drop_zero] at h2;rcases h2 with rfl | ⟨rfl,h2⟩
 ·rfl
 ·rw [h2]; rfl
theorem zj4 {α:Type} {s:List α} {P:α->Bool} {q:Bool×Int} (h:q=(true,ixf P s 0)):((.bn q λr0=>.k (decide (r0≥(0:Int))):Wy0 Bool).fin default)=(true,s.any P):=by
 rw [h,Wy.fin_bn,cond_true,Wy.fin_k,z80]
end
theorem zga (a b:Int):(a==b)=decide (a=b):=by by_cases h:a=b <;>simp [h]
theorem zYW (a b:Nat):(a==b)=decide (a=b):=by by_cases h:a=b <;>simp [h]
theorem i0 (l:Nat):((l:Int)==0)=(l==0):=by
 rw [zga,zYW]; congr 1; simp
def zwm (a:yB):Bool:=a.any λt=>t.Fs.length==0
theorem zPe (a:yB) (h:a.length<=1000000000):zeI a=(true,zwm a):=by
 unfold zeI zxT zda zhM;have:zdC a=IH (λ(_:Unit) x=>zgY x) (a.length+(Int.ofNat a.length).toNat +Int.toNat (0:Int)+(1:Nat)) () a:=rfl
 rw [zj4 (P:=λt:Term=>t.Fs.length==0) (this.trans (zbaG _ _ _ _ _ h (λx _=>by
  unfold zgY zut;rw [Wy.fin_k];congr 1;exact i0 x.Fs.length) (by omega)))]
 rfl
theorem zza (a:yB) (h:a.length<=1000000000):zh7 a=(true,zwm a):=by
 unfold zh7 zIy zGY
 have:=zcY (W:=zy2) (z:=.inl default) a.length (λi=>(a,(i:Int),())) (λ_=>()) (λi=> !((a.getD i default).Fs.length==0)) (.inl true) (.inr ())
  (λi hi H K D=>by
   show (zn5 a i).ev H K D=_;unfold zn5;simp only [Wy.ev_i,Wy.ev_k,Wy.ev_h,Wy.ev_bn,Wy.ev_d,tT,hi,i0];rw [zD (by omega)]
   cases (a.getD i default).Fs.length==0 <;>rfl)
  (λH K D=>by
   show (zn5 a a.length).ev H K D=_;unfold zn5;simp only [Wy.ev_i,Wy.ev_k,tT,Nat.lt_irrefl]) (a.length+Int.toNat (0:Int)+(1:Nat)) (by omega)
 rw [show ((0:Nat):Int)=(0:Int) from rfl] at this
 rw [Wy.fin_bn,this,zxq (λt:Term=> !(t.Fs.length==0)) a]
 have e:(a.all λt:Term=> !(t.Fs.length==0))= !zwm a:=by simp [zwm,List.all_eq_not_any_not]
 rw [e];cases zwm a <;>rfl
def isC:yB->Bool
 | [t]=>t.Fs.length==0
 | _=>false
theorem zRr (a:yB):zhh a=(true,isC a):=by
 unfold zhh zyC
 match a with
 | []=>rfl
 | [t]=>exact congrArg (Prod.mk true) (i0 t.Fs.length)
 | t::u::r=>
  have:((Int.ofNat (t::u::r).length)==(1:Int))=false:=by simp; omega
  rw [Wy.fin_i,this]; rfl
def zbfd (p:Fc->Bool):yC->Bool
 | [f]=>p f
 | _=>false
def isU:yB->Bool
 | [t]=>t.Cf==1&&zbfd (λf=>f.Exp==1&&(f.At.Kind==2||f.At.Kind==3||f.At.Kind==4)) t.Fs
 | _=>false
theorem z2V (x:At):zff x=(true,x.Kind==3||x.Kind==4):=by
 unfold zff zyI;rw [Wy.fin_i,Wy.fin_k,Wy.fin_k];cases x.Kind==3 <;>rfl
theorem zMM {τ:Type} (x y:τ) (r:List τ):((Int.ofNat (x::y::r).length)==(1:Int))=false:=by
 rw [beq_eq_false_iff_ne]; simp; omega
theorem z3J (a:yB):zkL a=(true,isU a):=by
 unfold zkL zDj
 match a with
 | []=>rfl
 | ⟨c,[]⟩::[]=>
  show (bif c != 1 then (true,false) else (true,false))=(true,c==1&&false)
  cases c != 1 <;>simp
 | ⟨c,[f]⟩::[]=>
  simp only [Wy.fin_i,Wy.fin_k,tT,isU,List.length_singleton,z2V,Wy.fin_bn,Wy.fin_d];show (bif c != 1 then (true,false) else bif f.Exp==1 then bif f.At.Kind==2 then (true,true) else (true,f.At.Kind==3||f.At.Kind==4) else (true,false))=(true,c==1&&(f.Exp==1&&(f.At.Kind==2||f.At.Kind==3||f.At.Kind==4)))
  rw [show (c != 1)= !(c==1) from rfl]
  cases c==1 <;>cases f.Exp==1 <;>cases f.At.Kind==2 <;>simp
 | ⟨c,f::g::r⟩::[]=>
  simp only [Wy.fin_i,bne,zMM];show (bif !(c==1) then (true,false) else (true,false))=(true,c==1&&false)
  cases c==1 <;>rfl
 | t::u::r=>rw [Wy.fin_i,bne,zMM]; rfl
def isB:yB->Bool
 | [t]=>t.Cf==1&&zbfd (λf=>f.Exp==1&&decide (2<=f.At.Kind)) t.Fs
 | _=>false
theorem zLb (a:yB):zpM a=(true,isB a):=by
 unfold zpM zNQ
 match a with
 | []=>rfl
 | ⟨c,[]⟩::[]=>
  show (bif c==1 then (true,false) else (true,false))=(true,c==1&&false)
  cases c==1 <;>rfl
 | ⟨c,[f]⟩::[]=>
  simp only [Wy.fin_i,Wy.fin_k,tT,List.length_singleton,Wy.fin_bn,Wy.fin_d];show (bif c==1 then bif decide (2<=f.At.Kind) then (true,f.Exp==1) else (true,false) else (true,false))=(true,c==1&&(f.Exp==1&&decide (2<=f.At.Kind)))
  cases c==1 <;>cases f.Exp==1 <;>cases decide (2<=f.At.Kind) <;>simp
 | ⟨c,f::g::r⟩::[]=>
  rw [Wy.fin_i];show (bif true then (Wy.i true (Wy.i (c==1) (Wy.i true (Wy.i (Int.ofNat (f::g::r).length==1) _ (.k false)) .d) (.k false)) .d:Wy0 Bool).fin default else _)=(true,c==1&&false)
  simp only [Wy.fin_i,Wy.fin_k,zMM,cond_true,cond_false];cases c==1 <;>rfl
 | t::u::r=>rw [Wy.fin_i,zMM]; rfl
theorem zNr (a b:Nat):decide (a>b)= !decide (a<=b):=by
 by_cases h:a<=b
 ·have:¬ a>b:=by omega
  simp [h,this]
 ·have:a>b:=by omega
  simp [h,this]
def zzY (t:Term):Bool:= !(decide (t.Fs.length>64)||t.Fs.any λf=>decide (f.Exp>64)||decide (f.At.Items.length>1024))
def ze0 (a:yB):Bool:=decide (a.length<=512)&&decide (zbo a<=8)&&decide (zN a<=4096)&&a.all zzY
theorem z9R (l:yC) (h:l.length<=1000000):zcp l=(true,l.any λf=>decide (f.Exp>64)||decide (f.At.Items.length>1024)):=by
 unfold zcp zhY
 have hw:zdm=z99 (λ(_:Unit) x=>zfL x):=by
  funext x y
  unfold zdm ziT z99 z5B;rw [Fc.eta2]
 have:zcG l=IG (λ(_:Unit) x=>zfL x) (l.length+(Int.ofNat l.length).toNat +Int.toNat (0:Int)+(1:Nat)) () l:=by
  unfold zcG zi2 ziM;rw [hw]; rfl
 exact zj4 (this.trans (zH3 _ _ _ _ _ (by omega) (λx _=>by
  unfold zfL zw6;rw [Wy.fin_i,Wy.fin_k,Wy.fin_k];have e:decide (Int.ofNat x.At.Items.length>(1024:Int))=decide (x.At.Items.length>1024):=zjD _ 1024;rw [e];cases decide (x.Exp>64) <;>rfl) (by omega)))
theorem z3Q {d:Nat} {a:yB} (h:zo d a) (hd:d<=100) (hs:zN a<=4611686018427387904):zkN a=(true,ze0 a):=by
 obtain ⟨h1,h2⟩:a.length<=1000000/\∀ t∈a,t.Fs.length<=1000000:=by
  cases d with
  | zero=>exact h.elim
  | succ d=>exact ⟨h.1,λt ht=>(h.2 t ht).1⟩
 have h3:zch a=(true,a.any λt=> !zzY t):=by
  unfold zch zhx;have:zdB a=IG (λ(_:Unit) x=>zkD x) (a.length+(Int.ofNat a.length).toNat +Int.toNat (0:Int)+(1:Nat)) () a:=rfl
  exact zj4 (this.trans (zH3 _ _ _ _ _ (by omega) (λx hx=>by
   unfold zkD zzA;rw [Wy.fin_i,Wy.fin_k,Wy.fin_bn,z9R _ (h2 x hx)];have e:decide (Int.ofNat x.Fs.length>(64:Int))=decide (x.Fs.length>64):=zjD _ 64;rw [e];unfold zzY;cases decide (x.Fs.length>64) <;>simp [Wy.fin_k]) (by omega)))
 unfold zkN zDo;have n1:zxK a=(true,(zbo a:Int)):=(z2R 1000 d a h (by omega) hd).1
 have n2:zBB a=(true,(zN a:Int)):=(zZB 1000 d a h (by omega) hs).1
 simp only [Wy.fin_i,Wy.fin_k,Wy.fin_bn,n1,n2,h3,cond_true];have e1:decide (Int.ofNat a.length>(512:Int))= !decide (a.length<=512):=by rw [show decide (Int.ofNat a.length>(512:Int))=decide (a.length>512) from zjD _ 512]; exact zNr _ _
 have e2:decide ((zbo a:Int)>(8:Int))= !decide (zbo a<=8):=by rw [show decide ((zbo a:Int)>(8:Int))=decide (zbo a>8) from zjD _ 8]; exact zNr _ _
 have e3:decide ((zN a:Int)>(4096:Int))= !decide (zN a<=4096):=by rw [show decide ((zN a:Int)>(4096:Int))=decide (zN a>4096) from zjD _ 4096]; exact zNr _ _
 have e4:(a.any λt=> !zzY t)= !a.all zzY:=by simp [List.all_eq_not_any_not]
 rw [e1,e2,e3,e4];unfold ze0;cases decide (a.length<=512) <;>cases decide (zbo a<=8) <;>cases decide (zN a<=4096) <;>simp
theorem zbfe (a:yB) (i:Nat) (hi:i<a.length) (hl:(a.getD i default).Fs.length<=1000000) (fuel:Nat) (hf:(a.getD i default).Fs.length<fuel):
  zRE fuel a i 0=(true,bif (a.getD i default).Fs.any λf=>decide (f.Exp>64)||decide (f.At.Items.length>1024) then .inl false else .inr (a,(i:Int))):=by
 have:=zcY (W:=zF1) (z:=.inl default) (a.getD i default).Fs.length (λk=>(a,(i:Int),(k:Int),())) (λ_=>()) (λk=>(λf:Fc=> !(decide (f.Exp>64)||decide (f.At.Items.length>1024))) ((a.getD i default).Fs.getD k default)) (.inl false) (.inr (a,(i:Int)))
  (λk hk H K D=>by
   show (zvq a i k).ev H K D=_;unfold zvq;simp only [Wy.ev_i,Wy.ev_k,Wy.ev_h,Wy.ev_bn,Wy.ev_d,tT,hi,hk];rw [zD (by omega),show decide ((((a.getD i default).Fs.getD k default).At.Items.length:Int)>(1024:Int))=_ from zjD _ 1024]
   cases decide (((a.getD i default).Fs.getD k default).Exp>64) <;>cases decide (1024<((a.getD i default).Fs.getD k default).At.Items.length) <;>rfl)
  (λH K D=>by
   show (zvq a i (a.getD i default).Fs.length).ev H K D=_;unfold zvq;simp only [Wy.ev_i,Wy.ev_k,Wy.ev_h,Wy.ev_bn,Wy.ev_d,tT,hi,Nat.lt_irrefl]) fuel hf
 rw [zxq (λf:Fc=> !(decide (f.Exp>64)||decide (f.At.Items.length>1024)))] at this
 have e:((a.getD i default).Fs.all λf=> !(decide (f.Exp>64)||decide (f.At.Items.length>1024)))= !((a.getD i default).Fs.any λf=>decide (f.Exp>64)||decide (f.At.Items.length>1024)):=by simp [List.all_eq_not_any_not]
 rw [e] at this;refine this.trans ?_;cases (a.getD i default).Fs.any λf=>decide (f.Exp>64)||decide (f.At.Items.length>1024) <;>rfl
theorem z8U {d:Nat} {a:yB} (h:zo d a) (hd:d<=100) (hs:zN a<=4611686018427387904):zyo a=(true,ze0 a):=by
 obtain ⟨h1,h2⟩:a.length<=1000000/\∀ t∈a,t.Fs.length<=1000000:=by
  cases d with
  | zero=>exact h.elim
  | succ d=>exact ⟨h.1,λt ht=>(h.2 t ht).1⟩
 have h3:zRl ((a.length+Int.toNat (0:Int)+(1:Nat))+zdY a) a 0=(true,bif a.all zzY then .inr () else .inl false):=by
  have:=zcY (W:=zGJ) (z:=.inl default) a.length (λk=>(a,(k:Int),())) (λ_=>()) (λk=>zzY (a.getD k default)) (.inl false) (.inr ())
   (λk hk H K D=>by
    show (zvX a k).ev H K D=_;unfold zvX;have h4:=h2 _ (zn hk);have h5:=zIE a k hk;simp only [Wy.ev_i,Wy.ev_k,Wy.ev_h,Wy.ev_bn,Wy.ev_d,tT,hk];rw [zbfe a k hk h4 _ (by omega)]
    have e:decide (((a.getD k default).Fs.length:Int)>(64:Int))=decide ((a.getD k default).Fs.length>64):=zjD _ 64;rw [e];unfold zzY;cases decide ((a.getD k default).Fs.length>64) <;>cases ((a.getD k default).Fs.any λf=>decide (f.Exp>64)||decide (f.At.Items.length>1024))
    ·simp only [cond_false,cond_true,isL,getR]; rw [zD (by omega)]; rfl
    all_goals rfl)
   (λH K D=>by
    show (zvX a a.length).ev H K D=_;unfold zvX;simp only [Wy.ev_i,Wy.ev_k,Wy.ev_h,Wy.ev_bn,Wy.ev_d,tT,Nat.lt_irrefl]) ((a.length+Int.toNat (0:Int)+(1:Nat))+zdY a) (by omega)
  rw [zxq] at this;exact this
 unfold zyo zVZ;have n1:zF6 a=(true,(zbo a:Int)):=(z2R 1000 d a h (by omega) hd).2
 have n2:zQI a=(true,(zN a:Int)):=(zZB 1000 d a h (by omega) hs).2
 simp only [Wy.fin_i,Wy.fin_k,Wy.fin_bn,n1,n2,h3,cond_true];have e1:decide (Int.ofNat a.length>(512:Int))= !decide (a.length<=512):=by rw [show decide (Int.ofNat a.length>(512:Int))=decide (a.length>512) from zjD _ 512]; exact zNr _ _
 have e2:decide ((zbo a:Int)>(8:Int))= !decide (zbo a<=8):=by rw [show decide ((zbo a:Int)>(8:Int))=decide (zbo a>8) from zjD _ 8]; exact zNr _ _
 have e3:decide ((zN a:Int)>(4096:Int))= !decide (zN a<=4096):=by rw [show decide ((zN a:Int)>(4096:Int))=decide (zN a>4096) from zjD _ 4096]; exact zNr _ _
 rw [e1,e2,e3];unfold ze0;cases decide (a.length<=512) <;>cases decide (zbo a<=8) <;>cases decide (zN a<=4096) <;>cases a.all zzY <;>simp [isL,getL]
def zqt (v:Value):Bool:=(v.Kind==0&&v.Text.size==0)||(v.Kind==1&&v.Int==0&&decide (v.Text.size<=255))||(v.Kind==2&&v.Text.size==0&&(v.Int==0||v.Int==1))
theorem z6x (s:ByteArray):(s.toList==(ByteArray.mk #[]).toList)=(s.size==0):=by
 rw [zBh];by_cases h:s.size=0
 ·have:s=ByteArray.mk #[]:=zFr (by
   have:s.data.toList.length=0:=by simpa using h
   rw [List.length_eq_zero_iff.1 this])
  subst this; rfl
 ·have:¬ s=ByteArray.mk #[]:=λe=>h (by rw [e]; rfl)
  simp [h,this]
theorem zyb (v:Value):zo9 v=(true,zqt v):=by
 unfold zo9 zRF zqt;simp only [z6x,Wy.fin_i,Wy.fin_k,zga,zYW];have e:decide (Int.ofNat v.Text.size<=(255:Int))=decide (v.Text.size<=255):=zn3 _ 255;rw [e];by_cases h0:v.Kind=0
 ·simp [h0]
 ·by_cases h1:v.Kind=1
  ·by_cases h2:v.Int=0 <;>simp [h1,h2]
  ·by_cases h2:v.Kind=2
   ·by_cases h3:v.Int=0
    ·simp [h2,h3]
    ·by_cases h4:v.Int=1 <;>simp [h2,h3,h4]
   ·simp [h0,h1,h2]
theorem zDN (v:Value):zsV v=(true,zqt v):=by
 unfold zsV zRI zqt;simp only [z6x,Wy.fin_i,Wy.fin_k,zga,zYW];have e:decide (Int.ofNat v.Text.size<=(255:Int))=decide (v.Text.size<=255):=zn3 _ 255;rw [e];by_cases h0:v.Kind=0
 ·simp [h0]
 ·by_cases h1:v.Kind=1
  ·by_cases h2:v.Int=0 <;>simp [h1,h2]
  ·by_cases h2:v.Kind=2
   ·by_cases h3:v.Int=0
    ·by_cases h4:v.Text.size=0 <;>simp [h2,h3,h4]
    ·by_cases h4:v.Text.size=0 <;>simp [h2,h3,h4]
   ·simp [h0,h1,h2]
def zIp (fn:Int) (b:Value) (w:Wd):Bool:=zqt w.Value&&(w.Value.Kind==b.Kind)&& !(fn==0&&w.Value.Int != 1)
def zzh (fn:Int) (l:yD) (op:Int) (b:Value):Bool:=decide (0<=fn)&&decide (fn<=3)&&decide (5<=op)&&decide (op<=10)&&zqt b&& !(decide (fn<=1)&&b.Kind != 0)&&l.all (zIp fn b)
theorem zbcJ (l:yD) (fn:Int) (b:Value) (h:l.length<=1000000):zbu l b fn=(true, !l.all (zIp fn b)):=by
 unfold zbu zgF;have:zdb l b fn=IG (λ(g:Value×(Int×Unit)×Unit) x=>zhc x g.1 g.2.1.1) (l.length+fn.toNat +(Int.ofNat l.length).toNat +Int.toNat (0:Int)+(1:Nat)) (b,(fn,()),()) l:=rfl
 have e:(!l.all (zIp fn b))=l.any λw=> !zIp fn b w:=by simp [List.all_eq_not_any_not]
 rw [e]
 exact zj4 (this.trans (zH3 _ _ _ _ _ (by omega) (λx _=>by
  show zhc x b fn=_;unfold zhc zyP zIp;simp only [Wy.fin_i,Wy.fin_k,Wy.fin_bn,zyb,cond_true,zga,zsY];cases zqt x.Value <;>by_cases h1:x.Value.Kind=b.Kind <;>by_cases h2:fn=0 <;>simp [zga,zsY,h1,h2]) (by omega)))
theorem z0f (fn:Int) (l:yD) (op:Int) (b:Value) (h:l.length<=1000000):zjx fn l op b=(true,zzh fn l op b):=by
 unfold zjx zCD zzh;simp only [Wy.fin_i,Wy.fin_k,Wy.fin_bn,zyb,zbcJ l fn b h,cond_true,zga,zsY];by_cases h1:fn<0
 ·have:¬ (0<=fn):=by omega
  simp [h1,this]
 by_cases h2:3<fn
 ·have:¬ (fn<=3):=by omega
  simp [h1,h2,this]
 by_cases h3:op<5
 ·have:¬ (5<=op):=by omega
  simp [h1,h2,h3,this]
 by_cases h4:10<op
 ·have:¬ (op<=10):=by omega
  simp [h1,h2,h3,h4,this]
 have g1:0<=fn:=by omega
 have g2:fn<=3:=by omega
 have g3:5<=op:=by omega
 have g4:op<=10:=by omega
 cases zqt b with
 | false=>simp [h1,h2,h3,h4]
 | true=>
  by_cases h5:fn=0
  ·subst h5; by_cases h6:b.Kind=0 <;>simp [h3,h4,h6,g3,g4]
  ·by_cases h7:fn=1
   ·subst h7; by_cases h6:b.Kind=0 <;>simp [h3,h4,h6,g3,g4]
   ·have:¬ fn<=1:=by omega
    simp [h1,h2,h3,h4,h5,h7,this,g1,g2,g3,g4]
theorem z5X (fn:Int) (l:yD) (op:Int) (b:Value) (h:l.length<=1000000):zv9 fn l op b=(true,zzh fn l op b):=by
 unfold zv9 zRy zzh
 have hl:zDA (fn.toNat +l.length+Int.toNat (0:Int)+(1:Nat)) fn l (0:Int) b=(true,bif l.all (zIp fn b) then .inr () else .inl false):=by
  have:=zcY (W:=zDC) (z:=.inl default) l.length (λk=>(fn,l,(),(k:Int),())) (λ_=>(b,())) (λk=>zIp fn b (l.getD k default)) (.inl false) (.inr ())
   (λk hk H K D=>by
    show (ztz fn l k b).ev H K D=_;unfold ztz zIp;simp only [Wy.ev_i,Wy.ev_k,Wy.ev_h,Wy.ev_bn,Wy.ev_d,tT,hk,zDN,zga,zsY];rw [zD (by omega)]
    cases zqt (l.getD k default).Value <;>cases decide ((l.getD k default).Value.Kind=b.Kind) <;>cases decide (fn=0) <;>cases decide ((l.getD k default).Value.Int=1) <;>rfl)
   (λH K D=>by
    show (ztz fn l l.length b).ev H K D=_;unfold ztz;simp only [Wy.ev_i,Wy.ev_k,Wy.ev_h,Wy.ev_bn,Wy.ev_d,tT,Nat.lt_irrefl]) (fn.toNat +l.length+Int.toNat (0:Int)+(1:Nat)) (by omega)
  rw [zxq] at this;exact this
 simp only [Wy.fin_i,Wy.fin_k,Wy.fin_bn,zDN,hl,cond_true,zga,zsY];by_cases h1:fn<0
 ·have:¬ (0<=fn):=by omega
  simp [h1,this]
 by_cases h2:3<fn
 ·have:¬ (fn<=3):=by omega
  simp [h1,h2,this]
 by_cases h3:op<5
 ·have:¬ (5<=op):=by omega
  simp [h1,h2,h3,this]
 by_cases h4:10<op
 ·have:¬ (op<=10):=by omega
  simp [h1,h2,h3,h4,this]
 have g1:0<=fn:=by omega
 have g2:fn<=3:=by omega
 have g3:5<=op:=by omega
 have g4:op<=10:=by omega
 cases zqt b with
 | false=>simp [h1,h2,h3,h4]
 | true=>
  by_cases h5:fn<=1
  ·by_cases h6:b.Kind=0
   ·cases l.all (zIp fn b) <;>simp [h1,h2,h3,h4,h5,h6,g1,g2,g3,g4,isL,getL]
   ·simp [h1,h2,h3,h4,h5,h6,g1,g2,g3,g4]
  ·cases l.all (zIp fn b) <;>simp [h1,h2,h3,h4,h5,g1,g2,g3,g4,isL,getL]
def bz (b:Value):Bool:=b.Kind==(0:Int)&&(b.Int==(0:Int)&&(b.Text.toList==(ByteArray.mk #[]).toList&&true))
def plA (x:At):Bool:=x.Func==0&&(x.Items.length==0)&&x.Op==0&&bz x.Bd
theorem zbcK (x:At):zo8 x=(true,plA x):=by
 unfold zo8 zRD plA;simp only [Wy.fin_i,Wy.fin_k,Int.ofNat_eq_natCast,i0];show _=(true,_&&_&&_&&bz x.Bd);rw [show (x.Bd.Kind==(0:Int)&&(x.Bd.Int==(0:Int)&&(x.Bd.Text.toList==(ByteArray.mk #[]).toList&&true)))=bz x.Bd from rfl]
 cases x.Func==0 <;>cases x.Items.length==0 <;>cases x.Op==0 <;>rfl
def zQv (l:yD) (k:Nat):Bool:=decide (k=0)||decide (zbb (zbc (l.getD (k - 1) default)) (zbc (l.getD k default))<=0)
def zUL (l:yD):Bool:=zeo (zQv l) l.length 0
theorem zVP (c:Nat->Bool):∀ n i,zeo c (n+1) i=(zeo c n i&&c (i+n))
 | 0,i=>by simp [zeo]
 | n+1,i=>by
  rw [zeo,zVP c n (i+1),zeo,show i+1+n=i+(n+1) by omega,Bool.and_assoc]
theorem zRV {d:Nat} (l:yD) (hl:l.length<=1000000) (h:∀ w∈l,zo d w.Ann) (hd:d<=99):∀ (n i:Nat),i<l.length->i<n->zeb n l i=(true,bif zeo (zQv l) (i+1) 0 then .inr () else .inl false)
 | 0,i,hi,hn=>by omega
 | n+1,i,hi,hn=>by
  show (zec l i).ev (λx y=>zeb n x.1 x.2.2.1) (λr=>(true,r)) (false,.inl default)=_
  unfold zec;have hg:decide ((i:Int)>(0:Int))=decide (0<i):=zjD i 0;cases i with
  | zero=>simp [Wy.ev_i,Wy.ev_k,zeo,zQv]
  | succ i=>
   have hi':i<l.length:=by omega
   have hw:IntKind.i64.wrap (((i+1:Nat):Int) - 1)=(i:Int):=by rw [zx2 (by omega) (by omega)]; rfl
   have hp:decide (0<i+1)=true:=by simp
   simp only [Wy.ev_i,Wy.ev_k,Wy.ev_h,Wy.ev_bn,Wy.ev_d,hg,hp,hw,tT,hi,hi',zjf (h _ (zn hi)) hd];rw [zRV l hl h hd n i hi' (by omega),zVP _ (i+1),Nat.zero_add]
   have:zQv l (i+1)= !decide (zbb (zbc (l.getD (i+1) default)) (zbc (l.getD i default))<0):=by
    unfold zQv;rw [show i+1 - 1=i from rfl,zfE (zbc (l.getD (i+1) default)) (zbc (l.getD i default))]
    generalize zbb (zbc (l.getD (i+1) default)) (zbc (l.getD i default))=z;by_cases hz:z<0
    ·have:¬ (-z<=0):=by omega
     simp [hz,this]
    ·have:(-z<=0):=by omega
     simp [hz,this]
   rw [this];cases decide (zbb (zbc (l.getD (i+1) default)) (zbc (l.getD i default))<0) <;>simp
theorem z8v {d:Nat} (l:yD) (hl:l.length<=1000000) (h:∀ w∈l,zo d w.Ann) (hd:d<=99):zcg l=(true,zUL l):=by
 unfold zcg zhu zUL
 match l,hl,h with
 | [],_,_=>rfl
 | x::r,hl,h=>
  have hw:IntKind.i64.wrap (Int.ofNat (x::r).length - 1)=(r.length:Int):=by
   rw [qf] at hl;rw [show Int.ofNat (x::r).length=(((x::r).length:Nat):Int) from rfl,zx2 (by simp) (by simp; omega)]; rfl
  rw [Wy.fin_bn,hw,zRV (x::r) hl h hd _ r.length (by simp) (by simp; omega)]
  cases zeo (zQv (x::r)) (r.length+1) 0 with
  | true=>simp [Wy.fin_i,Wy.fin_k,isL]
  | false=>simp [Wy.fin_i,Wy.fin_k,isL,getL]
section
variable {τ:Type} [Inhabited τ]
theorem z7C (A B:List τ) (x:τ):(A++x::B).getD A.length default=x:=by
 rw [List.getD_eq_getElem?_getD,List.getElem?_append_right (Nat.le_refl _)]; simp
theorem z6t (A B:List τ) (x y:τ):(A++x::B).set A.length y=A++y::B:=by
 rw [List.set_append_right _ _ (Nat.le_refl _)]; simp
theorem zbeI (A B C:List τ) (x y:τ):(A++x::(B++y::C)).getD (A.length+1+B.length) default=y:=by
 have:=z7C (A++x::B) C y;rw [qg,qf,show A.length+(B.length+1)=A.length+1+B.length by omega,List.append_assoc,List.cons_append] at this
 exact this
theorem zbdN (A B C:List τ) (x y z:τ):(A++x::(B++y::C)).set (A.length+1+B.length) z=A++x::(B++z::C):=by
 have:=z6t (A++x::B) C y z;rw [qg,qf,show A.length+(B.length+1)=A.length+1+B.length by omega,List.append_assoc,List.cons_append,List.append_assoc,List.cons_append] at this
 exact this
end
structure CW (U:Row->Prop):Prop where
 ends : ∀ x y, U x -> U y -> ∃ z, zcn x y = (true, z)
def ltW (x y:Row):Prop:=(zcn x y).2<0
theorem CW.eq {U:Row->Prop} (h:CW U) {x y:Row} (hx:U x) (hy:U y):zcn x y=(true,(zcn x y).2):=by
 obtain ⟨z,e⟩:=h.ends x y hx hy;rw [e]
theorem zbdh {U:Row->Prop} (hU:CW U) (P S:yF) (a b i:Int) (ha:a=(P.length:Int)):∀ (n:Nat) (L R:yF) (x:Row),(P++L++x::(R++S)).length<=1000000->L.length<n->U x->(∀ y∈L,U y)->
  ∃ L' R',zgO n a b i ((P.length+L.length:Nat):Int) (P++L++x::(R++S))=(true,(a,b,i,P++L'++x::(R'++S)))/\L'++R'=L++R/\(∀ r∈R',r∈R\/ltW x r)/\(L'=[]\/∃ L0 y,L'=L0++[y]/\¬ ltW x y)
 | 0,L,R,x,hN,hn,_,_=>by omega
 | n+1,L,R,x,hN,hn,hx,hL=>by
  subst ha;simp only [qg,qf] at hN;show ∃ L' R',(zgI P.length b i (P.length+L.length:Nat) (P++L++x::(R++S))).ev (λx y=>zgO n x.2.1 x.2.2.1 x.2.2.2.2.1 x.2.2.2.2.2.1 y.1) (λr=>(true,r)) (false,default)=_/\_
  unfold zgI;rcases List.eq_nil_or_concat L with rfl | ⟨L0,y,rfl⟩
  ·have e:decide (((P.length+([]:yF).length:Nat):Int)>(P.length:Int))=false:=by rw [decide_eq_false_iff_not]; simp
   simp only [Wy.ev_i,Wy.ev_k,e,cond_false];exact ⟨[],R,rfl,rfl,λr hr=>.inl hr,.inl rfl⟩
  ·rw [List.concat_eq_append] at *;simp only [qg,List.length_singleton] at hN hn;have e:decide (((P.length+(L0++[y]).length:Nat):Int)>(P.length:Int))=true:=by rw [qe]; simp; omega
   have ed:P++(L0++[y])++x::(R++S)=(P++L0)++y::([]++x::(R++S)):=by simp
   have ej:((P.length+(L0++[y]).length:Nat):Int)=(((P++L0).length+1+([]:yF).length:Nat):Int):=by simp; omega
   have wj:IntKind.i64.wrap ((((P++L0).length+1+([]:yF).length:Nat):Int) - 1)=(((P++L0).length:Nat):Int):=by
    simp only [qg,List.length_nil];rw [zfK (by omega) (by omega)]; omega
   have hlen:∀ u v:Row,((P++L0)++u::([]++v::(R++S))).length=P.length+L0.length+1+1+R.length+S.length:=λu v=>by simp only [qg,qf,List.length_nil]; omega
   have g1:∀ u v:Row,(decide ((0:Int)<=(((P++L0).length+1+([]:yF).length:Nat):Int))&&decide ((((P++L0).length+1+([]:yF).length:Nat):Int)<Int.ofNat ((P++L0)++u::([]++v::(R++S))).length))=true:=λu v=>by
    rw [hlen]; simp only [qc,qe,Int.ofNat_eq_natCast,qg,List.length_nil]; omega
   have g2:∀ u v:Row,(decide ((0:Int)<=(((P++L0).length:Nat):Int))&&decide ((((P++L0).length:Nat):Int)<Int.ofNat ((P++L0)++u::([]++v::(R++S))).length))=true:=λu v=>by
    rw [hlen]; simp only [qc,qe,Int.ofNat_eq_natCast,qg]; omega
   have g3:∀ u v:Row,decide ((P++L0).length+1+([]:yF).length<((P++L0)++u::([]++v::(R++S))).length)=true:=λu v=>by
    rw [hlen,qe]; simp only [qg,List.length_nil]; omega
   have g4:∀ u v:Row,decide ((P++L0).length<((P++L0)++u::([]++v::(R++S))).length)=true:=λu v=>by
    rw [hlen,qe]; simp only [qg]; omega
   obtain ⟨z,ez⟩:=hU.ends x y hx (hL y (by simp))
   have hz:ltW x y↔z<0:=by unfold ltW; rw [ez]
   rw [e,ed,ej,wj];simp only [Wy.ev_i,Wy.ev_k,Wy.ev_h,Wy.ev_bn,Wy.ev_d,Int.toNat_natCast,g1,g2,g3,g4,zbeI,z7C,zbdN,z6t,cond_true,ez];by_cases hlt:z<0
   ·rw [decide_eq_true hlt,cond_true];obtain ⟨L',R',k1,k2,k3,k4⟩:=zbdh hU P S P.length b i rfl n L0 (y::R) x (by simp only [qg,qf]; omega) (by omega) hx (λz hz=>hL z (by simp [hz]))
    refine ⟨L',R', ?_,by rw [k2]; simp,λr hr=> ?_,k4⟩
    ·rw [<- k1];simp
    ·rcases k3 r hr with h | h
     ·rcases qd.1 h with rfl | h
      ·exact .inr (hz.2 hlt)
      ·exact .inl h
     ·exact .inr h
   ·rw [decide_eq_false hlt,cond_false];refine ⟨L0++[y],R, ?_,rfl,λr hr=>.inl hr,   .inr ⟨L0,y,rfl,λh=>hlt (hz.1 h)⟩⟩
    simp
abbrev zAv (l:yF):Prop:=l.Pairwise λx y=>¬ ltW y x
structure OW (U:Row->Prop):Prop extends CW U where
 asym:∀ x y,U x->U y->ltW x y->¬ ltW y x
 ntr:∀ x y z,U x->U y->U z->¬ ltW x y->¬ ltW y z->¬ ltW x z
def clW (v y:Row):Bool:=decide (¬ (zcn v y).2<0)&&decide (¬ (zcn y v).2<0)
theorem zWi {v y:Row}:clW v y=true↔¬ ltW v y/\¬ ltW y v:=by unfold clW ltW; simp
structure PS (U:Row->Prop) (Z L:yF):Prop where
 perm:Z.Perm L
 stab:∀ v,U v->Z.filter (clW v)=L.filter (clW v)
theorem PS.refl {U:Row->Prop} (L:yF):PS U L L:=⟨.refl _,λ_ _=>rfl⟩
theorem PS.trans {U:Row->Prop} {A B C:yF} (h:PS U A B) (k:PS U B C):PS U A C:=⟨h.perm.trans k.perm,λv hv=>(h.stab v hv).trans (k.stab v hv)⟩
theorem PS.append {U:Row->Prop} {A B C D:yF} (h:PS U A B) (k:PS U C D):PS U (A++C) (B++D):=⟨h.perm.append k.perm,λv hv=>by rw [List.filter_append,List.filter_append,h.stab v hv,k.stab v hv]⟩
theorem PS.swap {U:Row->Prop} (h:OW U) {A B:yF} (hA:∀ y∈A,U y) (hB:∀ y∈B,U y) (hl:∀ a∈A,∀ b∈B,ltW a b\/ltW b a):PS U (A++B) (B++A):=⟨List.perm_append_comm,λv hv=>by
 rw [List.filter_append,List.filter_append];cases ea:A.filter (clW v) with
 | nil=>simp
 | cons a A'=>
  cases eb:B.filter (clW v) with
  | nil=>simp
  | cons b B'=>
   exfalso;obtain ⟨a1,a2⟩:=List.mem_filter.1 (show a∈A.filter (clW v) by rw [ea]; simp)
   obtain ⟨b1,b2⟩:=List.mem_filter.1 (show b∈B.filter (clW v) by rw [eb]; simp)
   obtain ⟨a3,a4⟩:=zWi.1 a2;obtain ⟨b3,b4⟩:=zWi.1 b2;rcases hl a a1 b b1 with h1 | h1
   ·exact h.ntr a v b (hA a a1) hv (hB b b1) a4 b3 h1
   ·exact h.ntr b v a (hB b b1) hv (hA a a1) b4 a3 h1⟩
theorem zbaA {U:Row->Prop} (h:OW U) {L R:yF} {x:Row} (hx:U x) (hL:∀ y∈L++R,U y) (hs:zAv (L++R)) (h1:∀ r∈R,ltW x r) (h2:L=[]\/∃ L0 y,L=L0++[y]/\¬ ltW x y):zAv (L++x::R):=by
 have hs':=List.pairwise_append.1 hs;refine List.pairwise_append.2 ⟨hs'.1,qi.2 ⟨λr hr=>h.asym x r hx (hL r (by simp [hr])) (h1 r hr),hs'.2.1⟩,λy hy z hz=> ?_⟩
 rcases qd.1 hz with rfl | hz
 ·rcases h2 with rfl | ⟨L0,w,rfl,hw⟩
  ·cases hy
  ·rcases List.mem_append.1 hy with hy | hy
   ·have:=(List.pairwise_append.1 hs'.1).2.2 y hy w (by simp)
    exact h.ntr z w y hx (hL w (by simp)) (hL y (by simp [hy])) hw this
   ·rw [qh.1 hy]; exact hw
 ·exact hs'.2.2 y hy z hz
theorem zbdk {U:Row->Prop} (h:OW U) (P S:yF) (a b:Int) (ha:a=(P.length:Int)):∀ (n:Nat) (Z1 Z2:yF),(P++Z1++Z2++S).length<=1000000->b=((P.length+Z1.length+Z2.length:Nat):Int)->Z2.length<n->(∀ y∈Z1,U y)->(∀ y∈Z2,U y)->zAv Z1->Z1.length<=900->
  Z1.length+Z2.length<=900->∃ Z,zde n a b ((P.length+Z1.length:Nat):Int) (P++Z1++Z2++S)=(true,P++Z++S)/\PS U Z (Z1++Z2)/\zAv Z
 | 0,Z1,Z2,hN,hb,hn,_,_,_,_,_=>by omega
 | n+1,Z1,Z2,hN,hb,hn,u1,u2,hs,h9,h99=>by
  simp only [qg] at hN;show ∃ Z,(zdd a b (P.length+Z1.length:Nat) (P++Z1++Z2++S)).ev (λx y=>zde n x.2.1 x.2.2.1 x.2.2.2.2.1 y.1) (λr=>(true,r)) (false,default)=_/\_
  unfold zdd;cases Z2 with
  | nil=>
   have e:decide (((P.length+Z1.length:Nat):Int)<b)=false:=by rw [decide_eq_false_iff_not,hb]; simp
   simp only [Wy.ev_i,Wy.ev_k,e,cond_false];exact ⟨Z1,by simp,by rw [List.append_nil]; exact PS.refl _,hs⟩
  | cons x Z2=>
   simp only [qf] at hN hb hn h99;have e:decide (((P.length+Z1.length:Nat):Int)<b)=true:=by rw [qe,hb]; omega
   obtain ⟨L',R',k1,k2,k3,k4⟩:=zbdh h.toCW P (Z2++S) a b ((P.length+Z1.length:Nat):Int) ha (a.toNat +b.toNat +(P.length+Z1.length)+(P.length+Z1.length)+(P++Z1++x::Z2++S).length+1000) Z1 [] x (by simp only [qg,qf,List.length_nil]; omega) (by omega) (u2 x (by simp)) u1
   have ed:P++Z1++x::([]++(Z2++S))=P++Z1++x::Z2++S:=by simp
   rw [ed] at k1;simp only [Wy.ev_i,Wy.ev_k,Wy.ev_h,Wy.ev_bn,Wy.ev_d,e,cond_true,Int.toNat_natCast,k1];rw [List.append_nil] at k2
   have hlen:(L'++x::R').length=Z1.length+1:=by
    have:=congrArg List.length k2;simp only [qg,qf] at *; omega
   have hsl:zAv (L'++x::R'):=zbaA h (u2 x (by simp)) (λy hy=>by rw [k2] at hy; exact u1 y hy) (by rw [k2]; exact hs) (λr hr=>by
    rcases k3 r hr with h | h
    ·cases h
    ·exact h) k4
   have hmem:∀ y∈L'++x::R',U y:=λy hy=>by
    rcases List.mem_append.1 hy with hy | hy
    ·exact u1 y (by rw [<- k2]; simp [hy])
    ·rcases qd.1 hy with rfl | hy
     ·exact u2 y (by simp)
     ·exact u1 y (by rw [<- k2]; simp [hy])
   obtain ⟨Z,m1,m2,m3⟩:=zbdk h P S a b ha n (L'++x::R') Z2 (by simp only [qg] at hlen ⊢; simp only [qf] at hlen ⊢; omega) (by rw [hb,hlen]; omega) (by omega) hmem (λy hy=>u2 y (by simp [hy])) hsl (by omega) (by omega)
   refine ⟨Z, ?_,m2.trans ?_,m3⟩
   ·have wi:IntKind.i64.wrap (((P.length+Z1.length:Nat):Int)+1)=((P.length+(L'++x::R').length:Nat):Int):=by rw [hlen,zfK (by omega) (by omega)]; omega
    rw [wi, <- m1];congr 1;simp
   ·have hr:∀ r∈R',ltW x r:=λr hr=>(k3 r hr).resolve_left (by simp)
    have h1:PS U ([x]++R') (R'++[x]):=PS.swap h (λy hy=>by rw [qh.1 hy]; exact u2 x (by simp)) (λy hy=>hmem y (by simp [hy])) (λa ha b hb=>by rw [qh.1 ha]; exact .inl (hr b hb))
    have h2:=((PS.refl L').append h1).append (PS.refl Z2);rw [<- List.append_assoc L' R',k2] at h2
    simpa using h2
theorem zbgT {U:Row->Prop} (h:OW U) (P Z S:yF) (hN:(P++Z++S).length<=1000000) (u:∀ y∈Z,U y) (h9:Z.length<=900) (a b:Int) (ha:a=(P.length:Int)) (hb:b=((P.length+Z.length:Nat):Int)):
  ∃ Z',zcM (P++Z++S) a b=(true,P++Z'++S)/\PS U Z' Z/\zAv Z':=by
 simp only [qg] at hN;unfold zcM zlR;have wa:IntKind.i64.wrap (a+1)=((P.length+1:Nat):Int):=by rw [ha,zfK (by omega) (by omega)]; omega
 rw [wa];cases Z with
 | nil=>
  refine ⟨[], ?_,PS.refl _,.nil⟩;have e:decide (((P.length+1:Nat):Int)<b)=false:=by rw [decide_eq_false_iff_not,hb]; simp; omega
  have e1:∀ k,zde (k+1) a b ((P.length+1:Nat):Int) (P++([]:yF)++S)=(true,P++([]:yF)++S):=λk=>by
   show (zdd a b (P.length+1:Nat) (P++([]:yF)++S)).ev _ _ _=_;unfold zdd;rw [Wy.ev_i,e]; rfl
  have e2:zde (a.toNat +b.toNat +Int.toNat ((P.length+1:Nat):Int)+(P++([]:yF)++S).length+(1000:Nat)) a b ((P.length+1:Nat):Int) (P++([]:yF)++S)=(true,P++([]:yF)++S):=e1 (a.toNat +b.toNat +Int.toNat ((P.length+1:Nat):Int)+(P++([]:yF)++S).length+999);rw [Wy.fin_bn,e2]; rfl
 | cons x Z=>
  simp only [qf] at hN h9 hb;obtain ⟨Z',k1,k2,k3⟩:=zbdk h P S a b ha (a.toNat +b.toNat +Int.toNat ((P.length+1:Nat):Int)+(P++x::Z++S).length+(1000:Nat)) [x] Z (by simp only [qg,List.length_singleton]; omega) (by rw [hb]; simp only [List.length_singleton]; omega) (by omega) (λy hy=>u y (by rw [qh.1 hy]; simp)) (λy hy=>u y (by simp [hy])) (by simp) (by simp) (by simp only [List.length_singleton]; omega)
  have ed:P++[x]++Z++S=P++x::Z++S:=by simp
  rw [ed,show ([x]:yF).length=1 from rfl] at k1
  rw [Wy.fin_bn,k1];exact ⟨Z',rfl,k2,k3⟩
theorem zbcD (k:Nat) {n bs a b:Int} (D:yF) (h:¬ b<=n):zjU (k+1) n bs a b D=(true,(n,bs,a,D)):=by
 show (zjV n bs a b D).ev _ _ _=_;unfold zjV;rw [Wy.ev_i,decide_eq_false h]; rfl
theorem zbc3 (k:Nat) {n bs:Int} (D:yF) (h:¬ bs<n):zjS (k+1) n bs D=(true,D):=by
 show (zjX n bs D).ev _ _ _=_;unfold zjX;rw [Wy.ev_i,decide_eq_false h]; rfl
theorem zbd7 {U:Row->Prop} (hU:OW U) {l:yF} (u:∀ y∈l,U y) (h4:l.length<20):∃ Z,zcq l=(true,Z)/\PS U Z l/\zAv Z:=by
 suffices h:∃ Z,zfc l (Int.ofNat l.length)=(true,Z)/\PS U Z l/\zAv Z by
  obtain ⟨Z,k1,k2,k3⟩:=h;refine ⟨Z, ?_,k2,k3⟩;unfold zcq zkb;rw [Wy.fin_bn,k1]; rfl
 rw [Int.ofNat_eq_natCast];unfold zfc zsf;have e2:zjU (Int.toNat (l.length:Int)+Int.toNat (20:Int)+Int.toNat (0:Int)+Int.toNat (20:Int)+l.length+(1000:Nat)) l.length 20 0 20 l=(true,((l.length:Int),20,0,l)):=zbcD (Int.toNat (l.length:Int)+Int.toNat (20:Int)+Int.toNat (0:Int)+Int.toNat (20:Int)+l.length+999) l (by omega)
 obtain ⟨Z,k1,k2,k3⟩:=zbgT hU [] l [] (by simp; omega) u (by omega) 0 (l.length:Int) (by simp) (by simp)
 have e7:zjS (Int.toNat (l.length:Int)+Int.toNat (20:Int)+Z.length+(1000:Nat)) l.length 20 Z=(true,Z):=zbc3 (Int.toNat (l.length:Int)+Int.toNat (20:Int)+Z.length+999) Z (by omega)
 rw [List.nil_append,List.append_nil,List.nil_append,List.append_nil] at k1;refine ⟨Z, ?_,k2,k3⟩;simp only [Wy.fin_bn,e2,k1,e7,cond_true,Wy.fin_k]
def zAs (x:Row):yF->yF
 | []=>[x]
 | y::r=>if (zcn x y).2<0 then x::y::r else y::zAs x r
def zHP (l:yF):yF:=l.foldl (λs x=>zAs x s) []
theorem z3r (x:Row):∀ l,(zAs x l).Perm (x::l)
 | []=>.refl _
 | y::r=>by
  rw [zAs];split
  ·exact .refl _
  ·exact ((z3r x r).cons y).trans (.swap x y r)
section
variable {U:Row->Prop} (h:OW U)
include h
theorem z1L {x:Row} (hx:U x):¬ ltW x x:=λk=>h.asym x x hx hx k k
theorem z7V {x:Row} (hx:U x):∀ l,(∀ y∈l,U y)->zAv l->zAv (zAs x l)
 | [],_,_=>by simp [zAs]
 | y::r,u,a=>by
  have a':=qi.1 a;rw [zAs];split
  ·rename_i hlt;refine qi.2 ⟨λz hz=> ?_,a⟩
   have hy:¬ ltW y x:=h.asym x y hx (u y (by simp)) hlt
   rcases qd.1 hz with rfl | hz
   ·exact hy
   ·exact h.ntr z y x (u z (by simp [hz])) (u y (by simp)) hx (a'.1 z hz) hy
  ·rename_i hlt;refine qi.2 ⟨λz hz=> ?_,z7V hx r (λy hy=>u y (by simp [hy])) a'.2⟩
   rcases qd.1 ((z3r x r).mem_iff.1 hz) with rfl | hz
   ·exact hlt
   ·exact a'.1 z hz
theorem z9g {x:Row} (hx:U x):∀ l,(∀ y∈l,U y)->zAv l->PS U (zAs x l) (l++[x])
 | [],_,_=>PS.refl _
 | y::r,u,a=>by
  have a':=qi.1 a;rw [zAs];split
  ·rename_i hlt;refine PS.swap h (A:=[x]) (B:=y::r) (λz hz=>by rw [qh.1 hz]; exact hx) u λz hz b hb=> ?_
   rw [qh.1 hz];rcases qd.1 hb with rfl | hb
   ·exact .inl hlt
   ·exact .inl (Classical.byContradiction λhn=>h.ntr x b y hx (u b (by simp [hb])) (u y (by simp)) hn (a'.1 b hb) hlt)
  ·exact (PS.refl (U:=U) [y]).append (z9g hx r (λy hy=>u y (by simp [hy])) a'.2)
theorem zYT:∀ l s,(∀ y∈s++l,U y)->zAv s->zAv (l.foldl (λs x=>zAs x s) s)/\PS U (l.foldl (λs x=>zAs x s) s) (s++l)
 | [],s,u,a=>⟨a,by rw [List.append_nil]; exact PS.refl _⟩
 | x::l,s,u,a=>by
  have hx:U x:=u x (by simp)
  have us:∀ y∈s,U y:=λy hy=>u y (by simp [hy])
  have p:=z9g h hx s us a
  obtain ⟨k1,k2⟩:=zYT l (zAs x s) (λy hy=>by
   rcases List.mem_append.1 hy with hy | hy
   ·rcases List.mem_append.1 (p.perm.mem_iff.1 hy) with hy | hy
    ·exact us y hy
    ·rw [qh.1 hy]; exact hx
   ·exact u y (by simp [hy])) (z7V h hx s us a)
  refine ⟨k1,k2.trans ?_⟩;have:=p.append (PS.refl (U:=U) l)
  rwa [List.append_assoc] at this
theorem PS.uniq:∀ {Z L:yF},(∀ y∈L,U y)->zAv Z->zAv L->PS U Z L->Z=L
 | [],L,_,_,_,p=>p.perm.nil_eq
 | z::Z,[],_,_,_,p=>p.perm.eq_nil
 | z::Z,l::L,u,a,b,p=>by
  have hz:z∈l::L:=p.perm.mem_iff.1 (by simp)
  have hl:l∈z::Z:=p.perm.mem_iff.2 (by simp)
  have uz:=u z hz
  have h1:¬ ltW l z:=by
   rcases qd.1 hl with e | hl
   ·rw [e]; exact z1L h uz
   ·exact (qi.1 a).1 l hl
  have h2:¬ ltW z l:=by
   rcases qd.1 hz with e | hz
   ·rw [e]; exact z1L h (u l (by simp))
   ·exact (qi.1 b).1 z hz
  have c1:clW z z=true:=zWi.2 ⟨z1L h uz,z1L h uz⟩;have c2:clW z l=true:=zWi.2 ⟨h2,h1⟩;have f:=p.stab z uz;rw [List.filter_cons_of_pos c1,List.filter_cons_of_pos c2] at f;injection f with e f'
  subst e;refine congrArg _ (PS.uniq (λy hy=>u y (by simp [hy])) (qi.1 a).2 (qi.1 b).2 ⟨(List.perm_cons z).1 p.perm,λv hv=> ?_⟩)
  have f:=p.stab v hv;by_cases hc:clW v z=true
  ·rw [List.filter_cons_of_pos hc,List.filter_cons_of_pos hc] at f;injection f
  ·rw [List.filter_cons_of_neg hc,List.filter_cons_of_neg hc] at f;exact f
theorem zbel {l:yF} (u:∀ y∈l,U y) (h4:l.length<20):zcq l=(true,zHP l):=by
 obtain ⟨Z,k1,k2,k3⟩:=zbd7 h u h4;obtain ⟨m1,m2⟩:=zYT h l [] u .nil;rw [k1];refine congrArg _ (PS.uniq h (λy hy=>u y (m2.perm.mem_iff.1 hy)) k3 m1 (k2.trans ?_))
 exact ⟨m2.perm.symm,λv hv=>(m2.stab v hv).symm⟩
end
section
variable {ρ:Type} (c:ρ->ρ->Int) (add:ρ->ρ->Option ρ)
def zgQ:List ρ->ρ->Option (List ρ)
 | [],x=>some [x]
 | y::l,x=>if c y x<0 then (zgQ l x).map (y::·) else if c y x=0 then (add y x).map (· ::l) else some (x::y::l)
def zgc:ρ->List ρ->Option (List ρ)
 | w,[]=>some [w]
 | w,x::r=>if c w x=0 then (add w x).bind λz=>zgc z r else (zgc x r).map (w::·)
def mrg:List ρ->Option (List ρ)
 | []=>some []
 | x::r=>zgc c add x r
def zxM (x:ρ):List ρ->List ρ
 | []=>[x]
 | y::r=>if c x y<0 then x::y::r else y::zxM x r
structure MO (V:ρ->Prop):Prop where
 anti:∀ x y,V x->V y->(c x y<0↔0<c y x)
 trans:∀ x y z,V x->V y->V z->c x y<=0->c y z<=0->c x z<=0
 key:∀ x y z,V x->V y->add x y=some z->V z/\∀ w,V w->(c z w=c x w/\c w z=c w x)
variable {c add} {V:ρ->Prop} (h:MO c add V)
include h
theorem MO.zero {x y:ρ} (hx:V x) (hy:V y):c x y=0↔c y x=0:=by
 have h1:=h.anti x y hx hy;have h2:=h.anti y x hy hx;omega
theorem MO.lt1 {x y z:ρ} (hx:V x) (hy:V y) (hz:V z) (h1:c x y<0) (h2:c y z<=0):c x z<0:=by
 have a:=h.trans x y z hx hy hz (by omega) h2
 have b1:=h.anti x y hx hy;have b2:=h.anti y x hy hx;have b3:=h.anti x z hx hz;have b4:=h.anti z x hz hx;have b5:=h.anti y z hy hz;by_cases e:c x z=0
 ·have:=h.trans y z x hy hz hx h2 (by omega)
  omega
 ·omega
theorem MO.lt2 {x y z:ρ} (hx:V x) (hy:V y) (hz:V z) (h1:c x y<=0) (h2:c y z<0):c x z<0:=by
 have a:=h.trans x y z hx hy hz h1 (by omega)
 have b1:=h.anti x y hx hy;have b2:=h.anti y x hy hx;have b3:=h.anti x z hx hz;have b4:=h.anti z x hz hx;have b5:=h.anti y z hy hz;by_cases e:c x z=0
 ·have:=h.trans z x y hz hx hy (by omega) h1
  omega
 ·omega
theorem z4p:∀ (r:List ρ) (w:ρ) (M:List ρ),V w->(∀ y∈r,V y)->zgc c add w r=some M->∃ m t,M=m::t/\V m/\∀ x,V x->(c m x=c w x/\c x m=c x w)
 | [],w,M,hw,_,e=>by
  rw [zgc,qa] at e;exact ⟨w,[],e.symm,hw,λx _=>⟨rfl,rfl⟩⟩
 | x::r,w,M,hw,u,e=>by
  rw [zgc] at e;split at e
  ·cases ea:add w x with
   | none=>rw [ea] at e; cases e
   | some z=>
    rw [ea] at e;obtain ⟨k1,k2⟩:=h.key w x z hw (u x (by simp)) ea
    obtain ⟨m,t,e1,e2,e3⟩:=z4p r z M k1 (λy hy=>u y (by simp [hy])) e
    exact ⟨m,t,e1,e2,λy hy=>⟨(e3 y hy).1.trans (k2 y hy).1,(e3 y hy).2.trans (k2 y hy).2⟩⟩
  ·cases ea:zgc c add x r with
   | none=>rw [ea] at e; cases e
   | some M'=>
    rw [ea] at e;rw [Option.map_some,qa] at e;exact ⟨w,M',e.symm,hw,λx _=>⟨rfl,rfl⟩⟩
theorem z4h {r:List ρ} {w x:ρ} (hw:V w) (hx:V x) (u:∀ y∈r,V y) (hxw:c x w<0):(zgc c add w r).map (x::·)=(zgc c add w r).bind (λM=>zgQ c add M x):=by
 cases e:zgc c add w r with
 | none=>rfl
 | some M=>
  obtain ⟨m,t,rfl,e2,e3⟩:=z4p h r w M hw u e;have h1:=(h.anti x w hx hw).1 hxw;have h2:=(e3 x hx).1;rw [Option.map_some,Option.bind_some,zgQ,if_neg (by omega),if_neg (by omega)]
theorem zZw {x:ρ} (hx:V x):∀ (r:List ρ) (w:ρ),V w->(∀ y∈r,V y)->(w::r).Pairwise (λa b=>c a b<=0)->c w x<=0->zgc c add w (zxM c x r)=(zgc c add w r).bind λM=>zgQ c add M x
 | [],w,hw,_,_,hle=>by
  rw [zxM,zgc,zgc,zgc,Option.bind_some,zgQ,zgQ];by_cases e:c w x=0
  ·rw [if_pos e,if_neg (by omega),if_pos e]; cases add w x <;>rfl
  ·rw [if_neg e,if_pos (by omega)]
 | y::r,w,hw,u,p,hle=>by
  have hy:V y:=u y (by simp)
  have ur:∀ y∈r,V y:=λy hy=>u y (by simp [hy])
  have p':=qi.1 p;have hwy:c w y<=0:=p'.1 y (by simp)
  have pr:=qi.1 p'.2;have ax:=h.anti x y hx hy;have ay:=h.anti y x hy hx;rw [zxM];by_cases hlt:c x y<0
  ·rw [if_pos hlt];have hwy':c w y<0:=h.lt2 hw hx hy hle hlt;rw [zgc];by_cases e:c w x=0
   ·rw [if_pos e];rw [show zgc c add w (y::r)=(zgc c add y r).map (w::·) by rw [zgc,if_neg (by omega)]]
    cases ea:add w x with
    | none=>
     rw [Option.bind_none];cases zgc c add y r with
     | none=>rfl
     | some M=>rw [Option.map_some,Option.bind_some,zgQ,if_neg (by omega),if_pos e,ea]; rfl
    | some z=>
     obtain ⟨k1,k2⟩:=h.key w x z hw hx ea;rw [Option.bind_some,zgc,if_neg (by rw [(k2 y hy).1]; omega)]
     cases zgc c add y r with
     | none=>rfl
     | some M=>rw [Option.map_some,Option.map_some,Option.bind_some,zgQ,if_neg (by omega),if_pos e,ea]; rfl
   ·rw [if_neg e];rw [show zgc c add w (y::r)=(zgc c add y r).map (w::·) by rw [zgc,if_neg (by omega)]]
    rw [zgc,if_neg (by omega),z4h h hy hx ur hlt]
    cases zgc c add y r with
    | none=>rfl
    | some M=>rw [Option.map_some,Option.bind_some,Option.bind_some,zgQ,if_pos (by omega)]
  ·rw [if_neg hlt,zgc,zgc];by_cases e:c w y=0
   ·rw [if_pos e,if_pos e];cases ea:add w y with
    | none=>rfl
    | some z=>
     obtain ⟨k1,k2⟩:=h.key w y z hw hy ea;rw [Option.bind_some,Option.bind_some];exact zZw hx r z k1 ur (qi.2 ⟨λb hb=>by rw [(k2 b (ur b hb)).1]; exact p'.1 b (by simp [hb]),pr.2⟩) (by rw [(k2 x hx).1]; exact hle)
   ·rw [if_neg e,if_neg e,zZw hx r y hy ur p'.2 (by omega)]
    have hwx:c w x<0:=h.lt1 hw hy hx (by omega) (by omega)
    cases zgc c add y r with
    | none=>rfl
    | some M=>rw [Option.map_some,Option.bind_some,Option.bind_some,zgQ,if_pos hwx]
theorem zbd0 {x:ρ} (hx:V x):∀ (r:List ρ),(∀ y∈r,V y)->r.Pairwise (λa b=>c a b<=0)->mrg c add (zxM c x r)=(mrg c add r).bind λM=>zgQ c add M x
 | [],_,_=>rfl
 | y::r,u,p=>by
  have hy:V y:=u y (by simp)
  have ur:∀ y∈r,V y:=λy hy=>u y (by simp [hy])
  rw [zxM];by_cases hlt:c x y<0
  ·rw [if_pos hlt];show zgc c add x (y::r)=(zgc c add y r).bind _;rw [zgc,if_neg (by omega),z4h h hy hx ur hlt]
  ·rw [if_neg hlt];have ax:=h.anti x y hx hy;have ay:=h.anti y x hy hx;exact zZw h hx r y hy ur p (by omega)
theorem zY9 {x y:ρ}:∀ {r:List ρ},y∈zxM c x r->y=x\/y∈r
 | [],k=>by rw [zxM] at k; simp_all
 | z::r,k=>by
  rw [zxM] at k;split at k
  ·exact qd.1 k
  ·rcases qd.1 k with rfl | k
   ·exact .inr (by simp)
   ·exact (zY9 k).imp id λk=>by simp [k]
theorem z7R {x:ρ} (hx:V x):∀ (r:List ρ),(∀ y∈r,V y)->r.Pairwise (λa b=>c a b<=0)->(zxM c x r).Pairwise λa b=>c a b<=0
 | [],_,_=>by simp [zxM]
 | y::r,u,p=>by
  have hy:V y:=u y (by simp)
  have p':=qi.1 p;rw [zxM];split
  ·rename_i hlt;refine qi.2 ⟨λz hz=> ?_,p⟩
   rcases qd.1 hz with rfl | hz
   ·omega
   ·exact h.trans x y z hx hy (u z (by simp [hz])) (by omega) (p'.1 z hz)
  ·rename_i hlt;have ax:=h.anti x y hx hy;have ay:=h.anti y x hy hx;refine qi.2 ⟨λz hz=> ?_,z7R hx r (λy hy=>u y (by simp [hy])) p'.2⟩
   rcases zY9 h hz with rfl | hz
   ·omega
   ·exact p'.1 z hz
theorem z7A:∀ (l s:List ρ),(∀ y∈s++l,V y)->s.Pairwise (λa b=>c a b<=0)->mrg c add (l.foldl (λs x=>zxM c x s) s)=l.foldl (λo x=>o.bind λM=>zgQ c add M x) (mrg c add s)
 | [],s,_,_=>rfl
 | x::l,s,u,p=>by
  have hx:V x:=u x (by simp)
  have us:∀ y∈s,V y:=λy hy=>u y (by simp [hy])
  rw [List.foldl_cons,List.foldl_cons, <- zbd0 h hx s us p];refine z7A l (zxM c x s) (λy hy=> ?_) (z7R h hx s us p)
  rcases List.mem_append.1 hy with hy | hy
  ·rcases zY9 h hy with rfl | hy
   ·exact hx
   ·exact us y hy
  ·exact u y (by simp [hy])
end
def zPG {ρ:Type} (c:ρ->ρ->Int) (add:ρ->ρ->Option ρ):Option (List ρ)->ρ->Option (List ρ)
 | none,_=>none
 | some o,x=>match o.getLast? with
  | none=>some [x]
  | some w=>if c w x=0 then (add w x).map λz=>o.dropLast++[z] else some (o++[x])
theorem zTE {ρ:Type} (c:ρ->ρ->Int) (add:ρ->ρ->Option ρ):∀ l:List ρ,l.foldl (zPG c add) none=none
 | []=>rfl
 | x::l=>zTE c add l
theorem zUb {ρ:Type} (c:ρ->ρ->Int) (add:ρ->ρ->Option ρ):∀ (l o:List ρ) (w:ρ),l.foldl (zPG c add) (some (o++[w]))=(zgc c add w l).map (o++·)
 | [],o,w=>rfl
 | x::l,o,w=>by
  rw [List.foldl_cons,zgc];unfold zPG;simp only [List.getLast?_append,List.getLast?_singleton,Option.some_or,List.dropLast_concat];by_cases e:c w x=0
  ·rw [if_pos e,if_pos e];cases add w x with
   | none=>exact zTE c add l
   | some z=>exact zUb c add l o z
  ·rw [if_neg e,if_neg e];have:=zUb c add l (o++[w]) x;unfold zPG at this;rw [this];cases zgc c add x l <;>simp
theorem zbem {ρ:Type} (c:ρ->ρ->Int) (add:ρ->ρ->Option ρ):∀ l:List ρ,l.foldl (zPG c add) (some [])=mrg c add l
 | []=>rfl
 | x::l=>by
  have:=zUb c add l [] x;simp only [List.nil_append] at this;show l.foldl (zPG c add) (some [x])=zgc c add x l;rw [this]; cases zgc c add x l <;>rfl
end Go.Proofs.YtoknknbmfmddbaaGreatDoor
/- Relations: values and rows compared, columns, fitting rows: the program and the reference. -/
set_option maxRecDepth 100000
namespace Go.Proofs.YtoknknbmfmddbaaGreatDoor
open Go Go.Ab
def z6W (a b:Value):Int:=zbb (trV a) (trV b)
theorem ref01_Compare_eq' (a b:Value):zjb a b=(true,z6W a b):=zAa a b
theorem z1z (l:yG) (m:Int) (hl:l.length<=zZ):∀ (n i:Nat),l.length<i+n->i<=l.length->∃ r,zDy n l m i=(true,r)/\(r=.inl false\/(r=.inr (l,m)/\∀ x∈l.drop i,x.Text.size<=300))
 | 0,i,h,h2=>by omega
 | n+1,i,h,h2=>by
  show ∃ r,(zDL l m i).ev (λx y=>zDy n x.1 x.2.1 x.2.2.1) (λr=>(true,r)) (false,.inl default)=(true,r)/\_
  unfold zDL;by_cases hi:i<l.length
  ·have hw:i<4611686018427387904:=by
    have:zZ<4611686018427387904:=by decide
    omega
   have hs:decide (((l.getD i default).Text.size:Int)>(300:Int))=decide ((l.getD i default).Text.size>300):=zjD _ 300;simp only [Wy.ev_i,Wy.ev_k,Wy.ev_h,Wy.ev_bn,Wy.ev_d,tT,hi];rw [hs];by_cases h3:(l.getD i default).Text.size>300
   ·rw [decide_eq_true h3];exact ⟨_,rfl,.inl rfl⟩
   ·rw [decide_eq_false h3,cond_false,zD hw];obtain ⟨r,h4,h5⟩:=z1z l m hl n (i+1) (by omega) (by omega)
    refine ⟨r,h4, ?_⟩;rcases h5 with h5 | ⟨h5,h6⟩
    ·exact .inl h5
    ·refine .inr ⟨h5,λx hx=> ?_⟩
     rw [zbf hi] at hx;rcases qd.1 hx with rfl | hx
     ·omega
     ·exact h6 x hx
  ·simp only [Wy.ev_i,Wy.ev_k,Wy.ev_h,Wy.ev_bn,Wy.ev_d,tT,hi];exact ⟨_,rfl,.inr ⟨rfl,λx hx=>by rw [zce hi] at hx; cases hx⟩⟩
theorem z6L (l:yG) (m:Nat) (hl:l.length<=zZ):∃ b,zpc l m=(true,b)/\(b=true->l.length<=m/\∀ x∈l,x.Text.size<=300):=by
 unfold zpc zRX;obtain ⟨r,h1,h2⟩:=z1z l m hl (l.length+(m:Int).toNat +Int.toNat (0:Int)+(1:Nat)) 0 (by omega) (by omega)
 rw [show ((0:Nat):Int)=(0:Int) from rfl] at h1
 rw [Wy.fin_bn,h1];rcases h2 with rfl | ⟨rfl,h2⟩
 ·exact ⟨false,rfl,λh=>by cases h⟩
 ·refine ⟨decide (l.length<=m), ?_,λh=>⟨of_decide_eq_true h,h2⟩⟩
  show (true,decide (Int.ofNat l.length<=(m:Int)))=_;rw [show decide (Int.ofNat l.length<=(m:Int))=decide (l.length<=m) from zn3 _ _]
def zML (c:Column):Bool:=decide (0<=c.Type_)&&decide (c.Type_<=2)
def zQ3 (l:yH):Bool:=decide (l.length<=16)&&l.all zML
def zHv (k:Int) (b:Value):Bool:=zqt b&&decide (b.Kind=k)
def zBO (l:yH) (row:yG):Bool:=decide (l.length=row.length)&&zeo (λi=>zHv (l.getD i default).Type_ (row.getD i default)) l.length 0
theorem zJQ (a b:Nat):decide (Int.ofNat a=Int.ofNat b)=decide (a=b):=by
 by_cases h:a=b
 ·rw [h]; simp
 ·rw [decide_eq_false h,decide_eq_false]; intro e; exact h (Int.ofNat.inj e)
theorem z4f (l:yH) (hl:l.length<=1000000):∀ (n i:Nat),l.length<i+n->i<=l.length->zJL n l i=(true,bif (l.drop i).all zML then .inr l else .inl false)
 | 0,i,h,h2=>by omega
 | n+1,i,h,h2=>by
  show (zAt l i).ev (zA zAw (.inl default) n) (λr=>(true,r)) (false,.inl default)=_
  unfold zAt;by_cases hi:i<l.length
  ·simp only [Wy.ev_i,Wy.ev_k,Wy.ev_h,Wy.ev_bn,Wy.ev_d,tT,hi];rw [zbf hi,List.all_cons,zD (by omega)]
   have ih:=z4f l hl n (i+1) (by omega) (by omega)
   unfold zML;by_cases h1:0<=(l.getD i default).Type_
   ·by_cases h2:(l.getD i default).Type_<=2
    ·rw [decide_eq_true h1,decide_eq_true h2,decide_eq_false (show ¬ (l.getD i default).Type_<0 by omega),decide_eq_false (show ¬ (l.getD i default).Type_>2 by omega)]
     exact ih
    ·rw [decide_eq_true h1,decide_eq_false h2,decide_eq_false (show ¬ (l.getD i default).Type_<0 by omega),decide_eq_true (show (l.getD i default).Type_>2 by omega)]
     rfl
   ·rw [decide_eq_false h1,decide_eq_true (show (l.getD i default).Type_<0 by omega)]
    rfl
  ·simp only [Wy.ev_i,Wy.ev_k,Wy.ev_h,Wy.ev_bn,Wy.ev_d,tT,hi,zce hi];rfl
theorem zYq (l:yH) (hl:l.length<=1000000):zvV l=(true,zQ3 l):=by
 have h:=z4f l hl (l.length+Int.toNat (0:Int)+(1:Nat)) 0 (by omega) (by omega)
 rw [show ((0:Nat):Int)=(0:Int) from rfl,List.drop_zero] at h
 unfold zvV zLx zQ3;rw [Wy.fin_bn,h,cond_true];cases l.all zML with
 | false=>rw [Bool.and_false]; rfl
 | true=>
  rw [Bool.and_true];show (true,decide (Int.ofNat l.length<=(16:Int)))=_;rw [show decide (Int.ofNat l.length<=(16:Int))=decide (l.length<=16) from zn3 _ 16]
theorem z5x (l:yH) (row:yG) (hl:l.length<=1000000):zB8 l row=(true,zBO l row):=by
 unfold zB8 zUr zBO;rw [Wy.fin_i,zsY,zJQ];by_cases he:l.length=row.length
 ·have key:=zcY (W:=zGF) (z:=.inl default) l.length (λi=>(l,row,(i:Int),())) (λ_=>()) (λi=>zHv (l.getD i default).Type_ (row.getD i default)) (.inl false) (.inr ()) (λi hi H K D=>by
    show (zvO l row i).ev H K D=_;unfold zvO;have hi':i<row.length:=by omega
    simp only [Wy.ev_i,Wy.ev_k,Wy.ev_h,Wy.ev_bn,Wy.ev_d,tT,hi,hi',zDN,zsY,zHv,zD (show i<4611686018427387904 by omega)]
    cases zqt (row.getD i default) <;>cases decide ((row.getD i default).Kind=(l.getD i default).Type_) <;>rfl) (λH K D=>by
    show (zvO l row l.length).ev H K D=_;unfold zvO;simp only [Wy.ev_i,Wy.ev_k,Wy.ev_h,Wy.ev_bn,Wy.ev_d,tT,Nat.lt_irrefl]) (l.length+row.length+Int.toNat (0:Int)+(1:Nat)) (by omega)
  replace key:zRs (l.length+row.length+Int.toNat (0:Int)+(1:Nat)) l row 0=_:=key;rw [decide_eq_true he,Bool.not_true,cond_false,Wy.fin_bn,key];cases zeo (λi=>zHv (l.getD i default).Type_ (row.getD i default)) l.length 0 <;>rfl
 ·rw [decide_eq_false he]; rfl
theorem zbgr:zbY ⟨default,0⟩=(true,false):=by kernel_rfl
theorem zbgn:zbY ⟨default,1⟩=(true,false):=by kernel_rfl
theorem zbgK:zbY ⟨default,2⟩=(true,false):=by kernel_rfl
theorem zbgP (c:Column):zbY c=(true, !zML c):=by
 have hc:zbY c=zbY ⟨default,c.Type_⟩:=rfl;rw [hc];unfold zML;generalize c.Type_=t;by_cases h0:t<0
 ·unfold zbY znB zpv zAc;rw [Wy.fin_bn,Wy.fin_i,decide_eq_true h0,decide_eq_false (show ¬ 0<=t by omega)]
  show (true,((ByteArray.mk #[]).toList==(ByteArray.mk #[]).toList))=_;rw [zBh]; rfl
 ·by_cases h2:t>2
  ·unfold zbY znB zpv zAc;rw [Wy.fin_bn,Wy.fin_i,Wy.fin_i,decide_eq_false h0,decide_eq_true h2,decide_eq_false (show ¬ t<=2 by omega),Bool.and_false]
   show (true,((ByteArray.mk #[]).toList==(ByteArray.mk #[]).toList))=_;rw [zBh]; rfl
  ·rw [decide_eq_true (show 0<=t by omega),decide_eq_true (show t<=2 by omega)]
   have:t=0\/t=1\/t=2:=by omega
   rcases this with rfl | rfl | rfl
   ·exact zbgr
   ·exact zbgn
   ·exact zbgK
theorem z0V (l:yH) (hl:l.length<=1000000):zhl l=(true,zQ3 l):=by
 have hc:zco l=(true, !l.all zML):=by
  unfold zco zh0;have:zdM l=IG (λ(_:Unit) x=>zbY x) (l.length+(Int.ofNat l.length).toNat +Int.toNat (0:Int)+(1000:Nat)) () l:=rfl
  have e:(!l.all zML)=l.any λc=> !zML c:=by simp [List.all_eq_not_any_not]
  rw [e];exact zj4 (this.trans (zH3 _ _ _ _ _ (by omega) (λx _=>zbgP x) (by omega)))
 unfold zhl zyy zQ3;have el:decide (Int.ofNat l.length<=(16:Int))=decide (l.length<=16):=zn3 _ 16;rw [Wy.fin_i,Wy.fin_bn,hc,el];cases decide (l.length<=16) <;>cases l.all zML <;>rfl
def zz6 (l:yH) (row:yG) (k:Nat):List pair:=(List.range k).map λi=>pair.mk (l.getD i default) (row.getD i default)
theorem z4e (l:yH) (row:yG) (k:Nat):zz6 l row (k+1)=zz6 l row k++[pair.mk (l.getD k default) (row.getD k default)]:=by
 unfold zz6; rw [List.range_succ,List.map_append]; rfl
theorem zXW (l:yH) (row:yG) (k:Nat):(zz6 l row k).length=k:=by simp [zz6]
theorem z67 (l:yH) (row:yG) (he:l.length=row.length) (hl:l.length<=1000000):∀ (n i:Nat),row.length<i+n->i<=row.length->zCn n l row row.length i (zz6 l row i)=(true,zz6 l row row.length)
 | 0,i,h,h2=>by omega
 | n+1,i,h,h2=>by
  show (zB4 l row row.length i (zz6 l row i)).ev (zA zCf default n) (λr=>(true,r)) (false,default)=_
  unfold zB4;by_cases hi:i<row.length
  ·have hi':i<l.length:=by omega
   simp only [Wy.ev_i,Wy.ev_k,Wy.ev_h,Wy.ev_bn,Wy.ev_d,tT,hi,hi'];rw [decide_eq_true (show ((zz6 l row i).length+[pair.mk (l.getD i default) (row.getD i default)].length)*56<=zF from zlI (by rw [zXW]; simp; omega) (by omega)),cond_true,zD (by omega), <- z4e]
   exact z67 l row he hl n (i+1) (by omega) (by omega)
  ·have:i=row.length:=by omega
   subst this;simp only [Wy.ev_i,Wy.ev_k,Wy.ev_h,Wy.ev_bn,Wy.ev_d,tT,Nat.lt_irrefl]
theorem z7G (l:yH) (row:yG) (p:pair->Bool):∀ k,(zz6 l row k).all p=zeo (λi=>p (pair.mk (l.getD i default) (row.getD i default))) k 0
 | 0=>rfl
 | k+1=>by
  rw [z4e,List.all_append,z7G l row p k,zVP,Nat.zero_add];simp
theorem zbdI (l:yH) (row:yG) (hl:l.length<=1000000):zrt l row=(true,zBO l row):=by
 unfold zrt zLu zBO;rw [Wy.fin_i,zga,zJQ];by_cases he:l.length=row.length
 ·have hz:zx1 l row=(true,zz6 l row row.length):=by
   unfold zx1 zNg;have key:∀ n,row.length<n->zCn n l row (Int.ofNat row.length) 0 []=(true,zz6 l row row.length):=λn hn=>z67 l row he hl n 0 (by omega) (by omega)
   rw [Wy.fin_bn,key _ (by omega)]; rfl
  have hc:zbZ (zz6 l row row.length)=(true, !(zz6 l row row.length).all λp=>zHv p.c.Type_ p.v):=by
   generalize hq:zz6 l row row.length=q;have hql:q.length<=1000000:=by rw [<- hq,zXW]; omega
   unfold zbZ zfY;have:zcX q=IG (λ(_:Unit) x=>zlF x) (q.length+(Int.ofNat q.length).toNat +Int.toNat (0:Int)+(1000:Nat)) () q:=rfl
   have e:(!q.all λp=>zHv p.c.Type_ p.v)=q.any λp=> !zHv p.c.Type_ p.v:=by simp [List.all_eq_not_any_not]
   rw [e]
   exact zj4 (this.trans (zH3 _ _ _ _ _ (by omega) (λx _=>by
    show zlF x=_;unfold zlF zEE zHv;simp only [Wy.fin_i,Wy.fin_k,Wy.fin_bn,zyb,cond_true,zsY];cases zqt x.v <;>cases decide (x.v.Kind=x.c.Type_) <;>rfl) (by omega)))
  rw [decide_eq_true he,cond_true,Wy.fin_bn,hz,cond_true,Wy.fin_bn,hc,z7G,he];cases zeo (λi=>zHv (l.getD i default).Type_ (row.getD i default)) row.length 0 <;>rfl
 ·rw [decide_eq_false he]; rfl
def ztT (l:yG):List TT:=l.map trV
theorem z6S:∀ {a b:yG},ztT a=ztT b->a=b
 | [],[],_=>rfl
 | [],_::_,h=>by cases h
 | _::_,[],h=>by cases h
 | x::a,y::b,h=>by
  have h':trV x::ztT a=trV y::ztT b:=h;injection h' with h1 h2
  rw [z17 h1,z6S h2]
def zzV (a b:yG):Int:=zbb (.l (ztT a)) (.l (ztT b))
theorem z78 (a b:yG):zzV a b=zbs (ztT a) (ztT b):=by unfold zzV; rw [zbb]
theorem zB5 (a b:yG):zzV b a= - zzV a b:=zfE _ _
theorem zPW (a b:yG):zzV a b=0↔a=b:=⟨λh=>z6S (TT.l.inj (zry _ _ h)),λh=>by subst h; exact zBc _⟩
theorem zYg {x y z:yG} (h1:zzV x y<=0) (h2:zzV y z<=0):zzV x z<=0:=zrC _ _ _ h1 h2
theorem zPK (a b:yG) (ha:a.length<=1000000):zn9 a b=(true,zzV a b):=by
 unfold zn9 zDv;have e:zb3=CF zjc:=rfl;rw [e,Wy.fin_bn,zNJ trV zjc a b ha (λx _ y _=>zAo x y),z78]; rfl
theorem zgN (x y:Row) (hx:x.Values.length<=1000000):zcn x y=(true,zzV x.Values y.Values):=by
 unfold zcn zFB;rw [Wy.fin_bn,zPK _ _ hx]; rfl
theorem z6P (a b:yG) (ha:a.length<=1000000):∀ (n i:Nat),a.length<i+n->i<=a.length->i<=b.length->
  ∃ r,zuC n a b i=(true,r)/\((r=.inr (a,b)/\zbs (ztT (a.drop i)) (ztT (b.drop i))=if a.length=b.length then 0 else if a.length<b.length then -1 else 1)\/r=.inl (zbs (ztT (a.drop i)) (ztT (b.drop i))))
 | 0,i,h,h2,h3=>by omega
 | n+1,i,h,h2,h3=>by
  show ∃ r,(zuX a b i).ev (λx y=>zuC n x.1 x.2.1 x.2.2.1) (λr=>(true,r)) (false,.inl default)=(true,r)/\_
  unfold zuX;by_cases hi:i<a.length
  ·by_cases hj:i<b.length
   ·simp only [Wy.ev_i,Wy.ev_k,Wy.ev_h,Wy.ev_bn,Wy.ev_d,tT,hi,hj,ref01_Compare_eq'];rw [zbf hi,zbf hj]
    have ec:zbs (ztT (a.getD i default::a.drop (i+1))) (ztT (b.getD i default::b.drop (i+1)))=if z6W (a.getD i default) (b.getD i default)=0 then zbs (ztT (a.drop (i+1))) (ztT (b.drop (i+1))) else z6W (a.getD i default) (b.getD i default):=by
     unfold ztT z6W; rw [List.map_cons,List.map_cons,zbs]
    rw [ec,zsY,zD (by omega)]
    by_cases e:z6W (a.getD i default) (b.getD i default)=0
    ·rw [if_pos e,decide_eq_true e,Bool.not_true,cond_false];exact z6P a b ha n (i+1) (by omega) (by omega) (by omega)
    ·rw [if_neg e,decide_eq_false e,Bool.not_false,cond_true];exact ⟨_,rfl,.inr rfl⟩
   ·simp only [Wy.ev_i,Wy.ev_k,Wy.ev_h,Wy.ev_bn,Wy.ev_d,tT,hi,hj];refine ⟨_,rfl,.inl ⟨rfl, ?_⟩⟩;rw [zbf hi,zce hj,if_neg (by omega),if_neg (by omega)]
    unfold ztT; rw [List.map_cons,List.map_nil,zbs]
  ·simp only [Wy.ev_i,Wy.ev_k,Wy.ev_h,Wy.ev_bn,Wy.ev_d,tT,hi];refine ⟨_,rfl,.inl ⟨rfl, ?_⟩⟩;rw [zce hi];by_cases hj:i<b.length
   ·rw [zbf hj,if_neg (by omega),if_pos (by omega)]
    unfold ztT; rw [List.map_cons,List.map_nil,zbs]
   ·rw [zce hj,if_pos (by omega)]
    unfold ztT; rw [List.map_nil,zbs]
theorem zBD (a b:yG) (ha:a.length<=1000000):zkM a b=(true,zzV a b):=by
 obtain ⟨r,h1,h2⟩:=z6P a b ha (a.length+b.length+Int.toNat (0:Int)+(1:Nat)) 0 (by omega) (by omega) (by omega)
 rw [show ((0:Nat):Int)=(0:Int) from rfl] at h1
 rw [List.drop_zero,List.drop_zero, <- z78] at h2;unfold zkM zDr;rw [Wy.fin_bn,h1,cond_true];have hs:∀ b:Bool,zr1 b=(true,bif b then -1 else 1):=λb=>by cases b <;>rfl
 rcases h2 with ⟨rfl,h2⟩ | rfl
 ·have hb:(Int.ofNat a.length==Int.ofNat b.length)=decide (a.length=b.length):=by rw [zga,zJQ]
  have hl':decide (Int.ofNat a.length<Int.ofNat b.length)=decide (a.length<b.length):=by simp
  simp only [Wy.fin_i,Wy.fin_k,Wy.fin_bn,isL,getR,cond_false,hb,hs,cond_true];rw [h2];by_cases e:a.length=b.length
  ·rw [decide_eq_true e,if_pos e]; rfl
  ·rw [decide_eq_false e,if_neg e,cond_false];by_cases e2:a.length<b.length
   ·rw [if_pos e2];show (true,bif decide (Int.ofNat a.length<Int.ofNat b.length) then (-1:Int) else 1)=_
    rw [hl',decide_eq_true e2]; rfl
   ·rw [if_neg e2];show (true,bif decide (Int.ofNat a.length<Int.ofNat b.length) then (-1:Int) else 1)=_
    rw [hl',decide_eq_false e2]; rfl
 ·rfl
theorem zRJ (a b:yG) (ha:a.length<=1000000):zys a b=(true,decide (a=b)):=by
 unfold zys zTy;rw [Wy.fin_bn,zBD a b ha,cond_true,Wy.fin_k,zga];congr 1;rw [decide_eq_decide]; exact zPW a b
end Go.Proofs.YtoknknbmfmddbaaGreatDoor
end
