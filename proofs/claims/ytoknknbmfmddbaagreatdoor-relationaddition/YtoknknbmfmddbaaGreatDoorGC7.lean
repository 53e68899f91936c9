/- Texts of this claim, joined (the program, its functions in plain words, and what they compute). -/
import Derived.Test.YtoknknbmfmddbaaGreatDoorGC6
set_option autoImplicit false
set_option linter.unusedVariables false
set_option linter.unusedSectionVars false
set_option linter.unusedSimpArgs false
set_option maxRecDepth 1000000
set_option maxHeartbeats 0
/- The reference's comparison of annotations is the order of trees. -/
noncomputable section
namespace Go.Proofs.YtoknknbmfmddbaaGreatDoor
open Go Go.Ab
theorem zWD (s:ByteArray):∀ (n i:Nat) (r:List UInt8),s.size<=i+n->ByteArray.toList.loop s i r=r.reverse++s.data.toList.drop i
 | 0,i,r,h=>by
  rw [ByteArray.toList.loop,if_neg (by omega),List.drop_eq_nil_of_le (by rw [<- Lib.size_eq]; omega),List.append_nil]
 | n+1,i,r,h=>by
  rw [ByteArray.toList.loop];by_cases hi:i<s.size
  ·have hi':i<s.data.toList.length:=by rw [<- Lib.size_eq]; exact hi
   rw [if_pos hi,zWD s n (i+1) _ (by omega),List.drop_eq_getElem_cons hi',List.reverse_cons,List.append_assoc]
   congr 1
   have:s.get! i=s.data.toList[i]:=by
    have h':i<s.data.size:=hi;show s.data[i]! =s.data.toList[i];rw [getElem!_pos s.data i h']; rfl
   rw [this]; rfl
  ·rw [if_neg hi,List.drop_eq_nil_of_le (by rw [<- Lib.size_eq]; omega),List.append_nil]
theorem toList_eq (s:ByteArray):s.toList=s.data.toList:=by
 rw [ByteArray.toList,zWD s s.size 0 [] (by omega)]; rfl
theorem zFX {s t:ByteArray} (h:s.data.toList=t.data.toList):s=t:=by
 cases s; cases t;congr 1;exact Array.toList_inj.1 h
theorem z68 (s t:ByteArray):(s.toList==t.toList)=decide (s.data.toList=t.data.toList):=by
 rw [toList_eq,toList_eq];cases hb:(s.data.toList==t.data.toList) with
 | true=>rw [decide_eq_true (beq_iff_eq.1 hb)]
 | false=>rw [decide_eq_false (λh=>by rw [beq_iff_eq.2 h] at hb; cases hb)]
theorem zCl (s t:ByteArray):(s.toList==t.toList)=decide (s=t):=by
 rw [z68];by_cases h:s=t
 ·rw [decide_eq_true h,decide_eq_true (by rw [h])]
 ·rw [decide_eq_false h,decide_eq_false λe=>h (zFX e)]
theorem zsD (z w:Int):(z != w)= !decide (z=w):=by by_cases h:z=w <;>simp [h]
theorem zQ8:∀ a b:List UInt8,Op.bytesLess a b=decide (Lib.compareBytes a b<0)
 | [],[]=>by simp [Op.bytesLess,Lib.compareBytes]
 | _::_,[]=>by simp [Op.bytesLess,Lib.compareBytes]
 | [],_::_=>by simp [Op.bytesLess,Lib.compareBytes]
 | x::a,y::b=>by
  simp only [Op.bytesLess,Lib.compareBytes];by_cases p:x<y
  ·simp [p]
  ·by_cases q:y<x
   ·have hne:¬ x=y:=λe=>by subst e; exact p q
    simp [p,q,hne]
   ·have he:x=y:=UInt8.toNat_inj.1 (by rw [UInt8.lt_iff_toNat_lt] at p q; omega)
    subst he;simp [p,zQ8 a b]
theorem zJn (a b:Value):zwz a b=(true,z8 (trV a) (trV b)):=by
 unfold zwz zLJ zIf zTs;rw [zCl,toList_eq,toList_eq,zQ8,z5b];simp only [trV,z8,zbA,zen];simp only [Wy.fin_i,Wy.fin_bn,Wy.fin_k,cond_true,zsD];by_cases h1:a.Kind=b.Kind
 ·by_cases h2:a.Int=b.Int
  ·by_cases h3:a.Text=b.Text
   ·simp [h1,h2,h3,zBN]
   ·have h4:z8 (trB a.Text) (trB b.Text)≠0:=λe=>by
     have:=zG8 _ _ (TT.l.inj (zsQ _ _ e));exact h3 (zFX this)
    have h5:=z4i (trB a.Text) (trB b.Text);simp only [trB,z8] at h4 h5;simp only [trB,z8];rcases h5 with h5 | h5 | h5
    ·simp [h1,h2,h3,h5]
    ·exact absurd h5 h4
    ·simp [h1,h2,h3,h5]
  ·by_cases h3:a.Int<b.Int
   ·simp [h1,h2,h3]
   ·simp [h1,h2,h3,show b.Int<a.Int by omega]
 ·by_cases h3:a.Kind<b.Kind
  ·simp [h1,h3]
  ·simp [h1,h3,show b.Kind<a.Kind by omega]
theorem znY (x y:Int):zdo x y=(true,zen x y):=by
 unfold zdo zOh zen;by_cases h1:x<y
 ·simp [h1,Wy.fin_i,Wy.fin_k]
 ·by_cases h2:y<x <;>simp [h1,h2,Wy.fin_i,Wy.fin_k]
theorem zSw (x y:RowID):zBd x y=(true,if zen x.Table y.Table=0 then zen x.Seq y.Seq else zen x.Table y.Table):=by
 unfold zBd zFj;simp only [znY,Wy.fin_i,Wy.fin_bn,Wy.fin_k,cond_true,zsD];by_cases h:zen x.Table y.Table=0
 ·simp [h]
 ·simp [h]
section
variable {α:Type} [Inhabited α]
def z2z (p q:α->α->Bool×Int) (a:List α) (b:List α) (i:Int):Wy (List α×List α×Int×Unit) Unit (Int⊕(List α×List α)):=.i (decide (i<Int.ofNat a.length)) (.i (decide (i<Int.ofNat b.length)) (.i (decide ((0:Int)<=i)&&decide (i<Int.ofNat a.length)) (.i (decide ((0:Int)<=i)&&decide (i<Int.ofNat b.length)) (.bn (p (a.getD i.toNat default) (b.getD i.toNat default)) λr1=>.i (r1 != (0:Int)) (.k (.inl (r1))) (.i (decide ((0:Int)<=i)&&decide (i<Int.ofNat a.length)) (.i (decide ((0:Int)<=i)&&decide (i<Int.ofNat b.length)) (.bn (q (a.getD i.toNat default) (b.getD i.toNat default)) λr0=>.i (r0 != (0:Int)) (.k (.inl (r0))) (.h (a,b,(IntKind.i64.wrap (i+(1:Int))),()) ())) .d) .d)) .d) .d) (.k (.inr (a,b)))) (.k (.inr (a,b)))
def z6x (p q:α->α->Bool×Int) (x:List α×List α×Int×Unit) (y:Unit):Wy (List α×List α×Int×Unit) Unit (Int⊕(List α×List α)):=z2z p q x.1 x.2.1 x.2.2.1
def z7s (p q:α->α->Bool×Int) (n:Nat) (a:List α) (b:List α) (i:Int):Bool×(Int⊕(List α×List α)):=zA (z6x p q) (.inl default) n (a,b,i,()) ()
def RG (p q:α->α->Bool×Int) (a b:List α):Bool×Int:=(.bn (z7s p q (a.length+b.length+Int.toNat (0:Int)+(1:Nat)) a b (0:Int)) λr5=>.i (isL r5) (.k (getL r5)) (.bn (zdo (Int.ofNat (getR r5).fst.length) (Int.ofNat (getR r5).snd.length)) λr4=>.k r4):Wy0 Int).fin default
theorem z5o (p q:α->α->Bool×Int) (c1 c2:α->α->Int) (a b:List α) (ha:a.length<=1000000) (hp:∀ x∈a,∀ y∈b,p x y=(true,c1 x y)) (hq:∀ x∈a,∀ y∈b,q x y=(true,c2 x y)):∀ (n i:Nat),a.length<i+n->i<=a.length->i<=b.length->
  ∃ r,z7s p q n a b i=(true,r)/\((r=.inl (zxl (λx y=>if c1 x y=0 then c2 x y else c1 x y) (a.drop i) (b.drop i)))\/(r=.inr (a,b)/\zxl (λx y=>if c1 x y=0 then c2 x y else c1 x y) (a.drop i) (b.drop i)=zen a.length b.length))
 | 0,i,h,h2,h3=>by omega
 | n+1,i,h,h2,h3=>by
  show ∃ r,(z2z p q a b i).ev (λx y=>z7s p q n x.1 x.2.1 x.2.2.1) (λr=>(true,r)) (false,.inl default)=(true,r)/\_
  unfold z2z;by_cases hi:i<a.length
  ·by_cases hi':i<b.length
   ·simp only [Wy.ev_i,Wy.ev_k,Wy.ev_h,Wy.ev_bn,Wy.ev_d,tT,hi,hi',hp _ (zl hi) _ (zl hi'),hq _ (zl hi) _ (zl hi')];rw [zbl hi,zbl hi',zB (by omega)]
    simp only [zxl];generalize c1 (a.getD i default) (b.getD i default)=z1;generalize c2 (a.getD i default) (b.getD i default)=z2;by_cases hx:z1=0
    ·have e:(z1 != 0)=false:=by simp [hx]
     by_cases hx2:z2=0
     ·have e2:(z2 != 0)=false:=by simp [hx2]
      simp only [e,e2,cond_false,hx,hx2,if_true];exact z5o p q c1 c2 a b ha hp hq n (i+1) (by omega) (by omega) (by omega)
     ·have e2:(z2 != 0)=true:=by simp [hx2]
      simp only [e,e2,cond_false,cond_true,hx,hx2,if_true,if_false];exact ⟨_,rfl,.inl rfl⟩
    ·have e:(z1 != 0)=true:=by simp [hx]
     simp only [e,cond_true,hx,if_false];exact ⟨_,rfl,.inl rfl⟩
   ·simp only [Wy.ev_i,Wy.ev_k,Wy.ev_h,Wy.ev_bn,Wy.ev_d,tT,hi,hi'];refine ⟨_,rfl,.inr ⟨rfl, ?_⟩⟩;rw [zbl hi,zdc hi'];unfold zen; rw [if_neg (by omega),if_pos (by omega)]; rfl
  ·simp only [Wy.ev_i,Wy.ev_k,Wy.ev_h,Wy.ev_bn,Wy.ev_d,tT,hi];refine ⟨_,rfl,.inr ⟨rfl, ?_⟩⟩;rw [zdc hi];by_cases hi':i<b.length
   ·rw [zbl hi']; unfold zen; rw [if_pos (by omega)]; rfl
   ·rw [zdc hi']; unfold zen; rw [if_neg (by omega),if_neg (by omega)]; rfl
theorem zbdw (p q:α->α->Bool×Int) (c1 c2:α->α->Int) (a b:List α) (ha:a.length<=1000000) (hp:∀ x∈a,∀ y∈b,p x y=(true,c1 x y)) (hq:∀ x∈a,∀ y∈b,q x y=(true,c2 x y)):RG p q a b=(true,zxl (λx y=>if c1 x y=0 then c2 x y else c1 x y) a b):=by
 unfold RG;obtain ⟨r,h1,h2⟩:=z5o p q c1 c2 a b ha hp hq (a.length+b.length+Int.toNat 0+1) 0 (by simp; omega) (by omega) (by omega)
 rw [show ((0:Nat):Int)=(0:Int) from rfl] at h1
 rw [Wy.fin_bn,h1];simp only [List.drop_zero] at h2;rcases h2 with rfl | ⟨rfl,h2⟩
 ·rfl
 ·rw [h2];simp only [Wy.fin_i,Wy.fin_k,Wy.fin_bn,znY,tT,isL,getR]
end
theorem zZG {α:Type} [Inhabited α] (e:α->TT) (p q:α->α->Bool×Int) (c1 c2:α->α->Int) (a b:List α) (ha:a.length<=1000000) (hp:∀ x∈a,∀ y∈b,p x y=(true,c1 x y)) (hq:∀ x∈a,∀ y∈b,q x y=(true,c2 x y))
  (hc:∀ x y,(if c1 x y=0 then c2 x y else c1 x y)=z8 (e x) (e y)):RG p q a b=(true,zbA (a.map e) (b.map e)):=by
 rw [zbdw p q c1 c2 a b ha hp hq,zLL e a b λx _ y _=>hc x y]
theorem z9k (g):zCN g=RG (λx y=>g x.Fs y.Fs) (λx y=>zdo x.Cf y.Cf):=rfl
theorem z6W (g):zm2 g=RG (λx y=>g x.At y.At) (λx y=>zdo x.Exp y.Exp):=by
 have h:zp1 g=z6x (λx y=>g x.At y.At) (λx y=>zdo x.Exp y.Exp):=by
  funext x y
  unfold zp1 zxF z6x z2z;rw [At.eta,At.eta]
 funext a b
 unfold zm2 zyj zxU;rw [h]; rfl
theorem z9b (g):zvZ g=RG (λx y=>zwz x.Value y.Value) (λx y=>g x.Ann y.Ann):=rfl
theorem z1e (gI) (g:yB->yB->Bool×Int) (a b:At) (ha:a.Ag.length<=1000000) (hg:∀ x∈a.Ag,∀ y∈b.Ag,g x y=(true,zbA (zdw x) (zdw y))):∀ (n i:Nat),a.Ag.length<i+n->i<=a.Ag.length->i<=b.Ag.length->
  ∃ r,ztS g gI n i a b=(true,r)/\((r=.inl (zxl (λx y=>zbA (zdw x) (zdw y)) (a.Ag.drop i) (b.Ag.drop i))/\zxl (λx y=>zbA (zdw x) (zdw y)) (a.Ag.drop i) (b.Ag.drop i)≠0)\/(r=.inr (a,b)/\zxl (λx y=>zbA (zdw x) (zdw y)) (a.Ag.drop i) (b.Ag.drop i)=zen a.Ag.length b.Ag.length))
 | 0,i,h,h2,h3=>by omega
 | n+1,i,h,h2,h3=>by
  show ∃ r,(ztO g gI i a b).ev (λx y=>ztS g gI n x.2.2.1 y.1 y.2.1) (λr=>(true,r)) (false,.inl default)=(true,r)/\_
  unfold ztO;by_cases hi:i<a.Ag.length
  ·by_cases hi':i<b.Ag.length
   ·simp only [Wy.ev_i,Wy.ev_k,Wy.ev_h,Wy.ev_bn,Wy.ev_d,tT,hi,hi',hg _ (zl hi) _ (zl hi')];rw [zbl hi,zbl hi',zB (by omega)]
    simp only [zxl];generalize zbA (zdw (a.Ag.getD i default)) (zdw (b.Ag.getD i default))=z1;by_cases hx:z1=0
    ·have e:(z1 != 0)=false:=by simp [hx]
     simp only [e,cond_false,hx,if_true];exact z1e gI g a b ha hg n (i+1) (by omega) (by omega) (by omega)
    ·have e:(z1 != 0)=true:=by simp [hx]
     simp only [e,cond_true,hx,if_false];exact ⟨_,rfl,.inl ⟨rfl,hx⟩⟩
   ·simp only [Wy.ev_i,Wy.ev_k,Wy.ev_h,Wy.ev_bn,Wy.ev_d,tT,hi,hi'];refine ⟨_,rfl,.inr ⟨rfl, ?_⟩⟩;rw [zbl hi,zdc hi'];unfold zen; rw [if_neg (by omega),if_pos (by omega)]; rfl
  ·simp only [Wy.ev_i,Wy.ev_k,Wy.ev_h,Wy.ev_bn,Wy.ev_d,tT,hi];refine ⟨_,rfl,.inr ⟨rfl, ?_⟩⟩;rw [zdc hi];by_cases hi':i<b.Ag.length
   ·rw [zbl hi']; unfold zen; rw [if_pos (by omega)]; rfl
   ·rw [zdc hi']; unfold zen; rw [if_neg (by omega),if_neg (by omega)]; rfl
theorem zbaW (gI) (g:yB->yB->Bool×Int) (x y:At) (ha:x.Ag.length<=1000000) (hg:∀ a∈x.Ag,∀ b∈y.Ag,g a b=(true,zbA (zdw a) (zdw b)))
  (hI:gI x.Items y.Items=(true,zbA (zic x.Items) (zic y.Items))):zrG g gI x y=(true,z8 (zd4 x) (zd4 y)):=by
 unfold zrG zB9;rw [At.eta,At.eta];obtain ⟨r,h1,h2⟩:=z1e gI g x y ha hg (Int.toNat 0+x.Ag.length+x.Items.length+y.Ag.length+y.Items.length+1) 0 (by omega) (by omega) (by omega)
 rw [show ((0:Nat):Int)=(0:Int) from rfl] at h1
 simp only [List.drop_zero] at h2;rw [zLL (λa=>TT.l (zdw a)) x.Ag y.Ag (λa _ b _=>by simp only [z8]), <- zCV, <- zCV] at h2
 simp only [znY,zSw,Wy.fin_bn,Wy.fin_i,Wy.fin_k,cond_true,h1];obtain ⟨k,r0,a,f,i,o,v⟩:=x; obtain ⟨k',r',a',f',i',o',v'⟩:=y;simp only [zd4,z8,zbA,zsD] at *;by_cases e1:zen k k'=0
 rotate_left
 ·simp [e1]
 by_cases e2:zen r0.Table r'.Table=0
 rotate_left
 ·simp [e1,e2]
 by_cases e3:zen r0.Seq r'.Seq=0
 rotate_left
 ·simp [e1,e2,e3]
 rcases h2 with ⟨rfl,h2⟩ | ⟨rfl,h2⟩
 ·simp [e1,e2,e3,h2,isL,getL]
 simp only [e1,e2,e3,h2,isL,getR,tT,hI,if_true];by_cases e4:zen (a.length:Int) (a'.length:Int)=0
 rotate_left
 ·simp [e4]
 by_cases e5:zen f f'=0
 rotate_left
 ·simp [e4,e5]
 by_cases e6:zbA (zic i) (zic i')=0
 rotate_left
 ·simp [e4,e5,e6]
 by_cases e7:zen o o'=0
 rotate_left
 ·simp [e4,e5,e6,e7]
 simp [e4,e5,e6,e7,zJn]
theorem zJq:∀ n,
  (∀ d a b,zo d a->10*d<=n->zty n a b=(true,zbA (zdw a) (zdw b)))/\
  (∀ d l l',zhd (zo d) l->10*d+10<=n+1->zmT n l l'=(true,zbA (zbo l) (zbo l')))/\
  (∀ d x y,zdb (zo d) x->10*d+10<=n+2->zrM n x y=(true,z8 (zd4 x) (zd4 y)))/\
  (∀ d a b,a.length<=1000000->(∀ x∈a,zo d x.Ann)->10*d+10<=n+3->zpQ n a b=(true,zbA (zic a) (zic b)))
 | 0=>by
  refine ⟨?_, ?_, ?_, ?_⟩
  ·intro d a b h hd; have:d=0:=by omega
   subst this; exact h.elim
  all_goals (intros; omega)
 | n+1=>by
  obtain ⟨h1,h2,h3,h4⟩:=zJq n;refine ⟨?_, ?_, ?_, ?_⟩
  ·intro d a b h hd;cases d with
   | zero=>exact h.elim
   | succ d=>
    rw [zTw,z9k,zGk,zGk]
    exact zZG zyr _ _ (λx y=>zbA (zbo x.Fs) (zbo y.Fs)) (λx y=>zen x.Cf y.Cf) a b h.1 (λx hx y hy=>h2 d _ _ (h.2 x hx) (by omega)) (λx _ y _=>znY _ _) λx y=>by
     obtain ⟨c,l⟩:=x; obtain ⟨c',l'⟩:=y;simp only [zyr,z8,zbA];by_cases e:zen c c'=0 <;>simp [e]
  ·intro d l l' h hd;rw [zIs,z6W,zw3,zw3]
   exact zZG zrg _ _ (λx y=>z8 (zd4 x.At) (zd4 y.At)) (λx y=>zen x.Exp y.Exp) l l' h.1 (λx hx y hy=>h3 d _ _ (h.2 x hx) (by omega)) (λx _ y _=>znY _ _) λx y=>by
    obtain ⟨c,l⟩:=x; obtain ⟨c',l'⟩:=y;simp only [zrg,z8,zbA];by_cases e:zen l l'=0 <;>simp [e]
  ·intro d x y h hd;rw [zM9];exact zbaW _ _ x y h.1.1 (λa ha b _=>h1 d a b (h.2.1 a ha) (by omega)) (h4 d _ _ h.1.2.1 (λw hw=>(h.2.2 w hw).2) (by omega))
  ·intro d a b h0 h hd;rw [zK5,z9b,zm4,zm4]
   exact zZG z7 _ _ (λx y=>z8 (trV x.Value) (trV y.Value)) (λx y=>zbA (zdw x.Ann) (zdw y.Ann)) a b h0 (λx _ y _=>zJn _ _) (λx hx y _=>h1 d _ _ (h x hx) (by omega)) λx y=>by
    obtain ⟨c,l⟩:=x; obtain ⟨c',l'⟩:=y;simp only [z7,z8,zbA];by_cases e:zbA (zdw l) (zdw l')=0 <;>simp [e]
theorem zXF {d:Nat} {a:yB} (h:zo d a) (hd:d<=100) (b:yB):zRf a b=(true,zbA (zdw a) (zdw b)):=(zJq 1000).1 d a b h (by omega)
theorem zsA {d:Nat} {l:yC} (h:zhd (zo d) l) (hd:d<=99) (l':yC):zpF l l'=(true,zbA (zbo l) (zbo l')):=(zJq 1000).2.1 d l l' h (by omega)
theorem zvF {d:Nat} {x:At} (h:zdb (zo d) x) (hd:d<=99) (y:At):zo6 x y=(true,z8 (zd4 x) (zd4 y)):=(zJq 1000).2.2.1 d x y h (by omega)
theorem zB7 {d:Nat} {a:yD} (h0:a.length<=1000000) (h:∀ x∈a,zo d x.Ann) (hd:d<=99) (b:yD):zyD a b=(true,zbA (zic a) (zic b)):=(zJq 1000).2.2.2 d a b h0 h (by omega)
theorem zRn {d:Nat} {a:yB} (h:zo d a) (hd:d<=100) (b:yB):zDG a b=(true,decide (a=b)):=by
 unfold zDG zUJ;rw [Wy.fin_bn,zXF h hd];simp only [cond_true,Wy.fin_k];congr 1;by_cases e:a=b
 ·subst e; rw [zTj]; simp
 ·have:zbA (zdw a) (zdw b)≠0:=λh=>e (zFY _ _ (zIO _ _ h))
  simp [e,this]
abbrev zRw:=yB×Int×Int×Unit
abbrev z1S:=Bool⊕(yB×Int)
abbrev zRk:=yB×Int×Unit
def zwG (a:yB) (i:Int) (k:Int):Wy zRw Unit z1S:=.i (decide (0<=i)&&decide (i<Int.ofNat a.length)) (.i (decide (k<Int.ofNat (a.getD i.toNat default).Fs.length)) (.i (decide (0<=i)&&decide (i<Int.ofNat a.length)) (.i (decide (0<=k)&&decide (k<Int.ofNat (a.getD i.toNat default).Fs.length)) (.i (decide (((a.getD i.toNat default).Fs.getD k.toNat default).Exp>64)) (.k (.inl false)) (.i (decide (0<=i)&&decide (i<Int.ofNat a.length)) (.i (decide (0<=k)&&decide (k<Int.ofNat (a.getD i.toNat default).Fs.length)) (.i (decide (Int.ofNat ((a.getD i.toNat default).Fs.getD k.toNat default).At.Items.length>1024)) (.k (.inl false)) (.h (a,i,(IntKind.i64.wrap (k+1)),()) ())) .d) .d)) .d) .d) (.k (.inr (a,i)))) .d
def zRq (x:zRw) (y:Unit):=zwG x.1 x.2.1 x.2.2.1
def zRo (n:Nat) (a:yB) (i:Int) (k:Int):=zA (zRq) (.inl default) n (a,i,k,()) ()
def zwl (a:yB) (i:Int):Wy zRk Unit (Bool⊕Unit):=.i (decide (i<Int.ofNat a.length)) (.i (decide (0<=i)&&decide (i<Int.ofNat a.length)) (.i (decide (Int.ofNat (a.getD i.toNat default).Fs.length>64)) (.k (.inl false)) (.bn (zRo ((a.length+i.toNat +Int.toNat 0+1)+zgV a) a i 0) λr0=>.i (isL r0) (.k (.inl (getL r0))) (.h ((getR r0).1,(IntKind.i64.wrap ((getR r0).2+1)),()) ()))) .d) (.k (.inr ()))
def zQ5 (x:zRk) (y:Unit):=zwl x.1 x.2.1
def zRc (n:Nat) (a:yB) (i:Int):=zA (zQ5) (.inl default) n (a,i,()) ()
def zUg (a:yB):Wy0 (Bool):=.i (decide (Int.ofNat a.length>512)) (.k false) (.bn (zRF a) λr4=>.i (decide (r4>8)) (.k false) (.bn (zYD a) λr3=>.i (decide (r3>4096)) (.k false) (.bn (zRc ((a.length+Int.toNat 0+1)+zgV a) a 0) λr2=>.i (isL r2) (.k (getL r2)) (.k true))))
def zHZ (a:yB):=(zUg a).fin default
def zRa (v:Value):Wy0 (Bool):=.i (v.Kind==0) (.k (v.Text.toList==(ByteArray.mk #[]).toList)) (.i (v.Kind==1) (.i (v.Int==0) (.k (decide (Int.ofNat v.Text.size<=255))) (.k false)) (.i (v.Kind==2) (.i (v.Text.toList==(ByteArray.mk #[]).toList) (.i (v.Int==0) (.k true) (.k (v.Int==1))) (.k false)) (.k false)))
def zFb (v:Value):=(zRa v).fin default
abbrev zO8:=Int×yD×Unit×Int×Unit
def zuF (fn:Int) (items:yD) (i:Int) (bound:Value):Wy zO8 (Value×Unit) (Bool⊕Unit):=.i (decide (i<Int.ofNat items.length)) (.i (decide (0<=i)&&decide (i<Int.ofNat items.length)) (.bn (zFb (items.getD i.toNat default).Value) λr0=>.i (!r0) (.k (.inl false)) (.i ((items.getD i.toNat default).Value.Kind != bound.Kind) (.k (.inl false)) (.i (fn==0) (.i ((items.getD i.toNat default).Value.Int != 1) (.k (.inl false)) (.h (fn,items,(),(IntKind.i64.wrap (i+1)),()) (bound,()))) (.h (fn,items,(),(IntKind.i64.wrap (i+1)),()) (bound,()))))) .d) (.k (.inr ()))
def zOa (x:zO8) (y:Value×Unit):=zuF x.1 x.2.1 x.2.2.2.1 y.1
def zEF (n:Nat) (fn:Int) (items:yD) (i:Int) (bound:Value):=zA (zOa) (.inl default) n (fn,items,(),i,()) (bound,())
def zRC (fn:Int) (items:yD) (op:Int) (bound:Value):Wy0 (Bool):=.i (decide (fn<0)) (.k false) (.i (decide (fn>3)) (.k false) (.i (decide (op<5)) (.k false) (.i (decide (op>10)) (.k false) (.bn (zFb bound) λr4=>.i (!r4) (.k false) (.i (decide (fn<=1)) (.i (bound.Kind != 0) (.k false) (.bn (zEF (fn.toNat +items.length+Int.toNat 0+1) fn items 0 bound) λr2=>.i (isL r2) (.k (getL r2)) (.k true))) (.bn (zEF (fn.toNat +items.length+Int.toNat 0+1) fn items 0 bound) λr3=>.i (isL r3) (.k (getL r3)) (.k true)))))))
def zFa (fn:Int) (items:yD) (op:Int) (bound:Value):=(zRC fn items op bound).fin default
def zRz (x_:At):Wy0 (Bool):=.i (x_.Func==0) (.i (Int.ofNat x_.Items.length==0) (.i (x_.Op==0) (.k (x_.Bd.Kind==0&&(x_.Bd.Int==0&&(x_.Bd.Text.toList==(ByteArray.mk #[]).toList&&true)))) (.k false)) (.k false)) (.k false)
def zxa (x_:At):=(zRz x_).fin default
def zOK (a:yB):Wy0 (Bool):=.i (Int.ofNat a.length==1) (.i (decide ((0:Int)<=(0:Int))&&decide (0<Int.ofNat a.length)) (.i ((a.getD (Int.toNat 0) default).Cf==1) (.i (decide ((0:Int)<=(0:Int))&&decide (0<Int.ofNat a.length)) (.i (Int.ofNat (a.getD (Int.toNat 0) default).Fs.length==1) (.i (decide ((0:Int)<=(0:Int))&&decide (0<Int.ofNat a.length)) (.i (decide ((0:Int)<=(0:Int))&&decide (0<Int.ofNat (a.getD (Int.toNat 0) default).Fs.length)) (.i (decide (((a.getD (Int.toNat 0) default).Fs.getD (Int.toNat 0) default).At.Kind≥2)) (.i (decide ((0:Int)<=(0:Int))&&decide (0<Int.ofNat a.length)) (.i (decide ((0:Int)<=(0:Int))&&decide (0<Int.ofNat (a.getD (Int.toNat 0) default).Fs.length)) (.k (((a.getD (Int.toNat 0) default).Fs.getD (Int.toNat 0) default).Exp==1)) .d) .d) (.k false)) .d) .d) (.k false)) .d) (.k false)) .d) (.k false)
def zyo (a:yB):=(zOK a).fin default
abbrev zHy:=yB×Int×Unit
def zpk (a:yB) (i:Int):Wy zHy Unit (Bool⊕Unit):=.i (decide (i<Int.ofNat a.length)) (.i (decide (0<=i)&&decide (i<Int.ofNat a.length)) (.i (Int.ofNat (a.getD i.toNat default).Fs.length==0) (.k (.inl true)) (.h (a,(IntKind.i64.wrap (i+1)),()) ())) .d) (.k (.inr ()))
def zHR (x:zHy) (y:Unit):=zpk x.1 x.2.1
def zHF (n:Nat) (a:yB) (i:Int):=zA (zHR) (.inl default) n (a,i,()) ()
def zJZ (a:yB):Wy0 (Bool):=.bn (zHF (a.length+Int.toNat 0+1) a 0) λr0=>.i (isL r0) (.k (getL r0)) (.k false)
def zmB (a:yB):=(zJZ a).fin default
def zeb (c:Nat->Bool):Nat->Nat->Bool
 | 0,_=>true
 | n+1,i=>c i&&zeb c n (i+1)
theorem zYW {c c':Nat->Bool}:∀ n i,(∀ k,i<=k->k<i+n->c k=c' k)->zeb c n i=zeb c' n i
 | 0,_,_=>rfl
 | n+1,i,h=>by
  simp only [zeb]; rw [h i (by omega) (by omega),zYW n (i+1) λk h1 h2=>h k (by omega) (by omega)]
theorem zdB {c:Nat->Bool}:∀ {n i},zeb c n i=true↔∀ k,i<=k->k<i+n->c k=true
 | 0,i=>⟨λ_ k h1 h2=>by omega,λ_=>rfl⟩
 | n+1,i=>by
  simp only [zeb,qc,zdB (n:=n)];constructor
  ·rintro ⟨h1,h2⟩ k h3 h4
   by_cases e:k=i
   ·rw [e]; exact h1
   ·exact h2 k (by omega) (by omega)
  ·intro h;exact ⟨h i (by omega) (by omega),λk h1 h2=>h k (by omega) (by omega)⟩
theorem z3q (c c':Nat->Bool):∀ n i,zeb (λk=>c k&&c' k) n i=(zeb c n i&&zeb c' n i)
 | 0,_=>rfl
 | n+1,i=>by
  simp only [zeb,z3q c c' n (i+1)];cases c i <;>cases c' i <;>simp
theorem z3M {τ:Type} [Inhabited τ] (p:τ->Bool) (l:List τ):∀ n i,i+n=l.length->zeb (λk=>p (l.getD k default)) n i=(l.drop i).all p
 | 0,i,h=>by rw [zdc (by omega)]; rfl
 | n+1,i,h=>by
  rw [zbl (by omega),List.all_cons]
  simp only [zeb,z3M p l n (i+1) (by omega)]
theorem zyN {τ:Type} [Inhabited τ] (p:τ->Bool) (l:List τ):zeb (λk=>p (l.getD k default)) l.length 0=l.all p:=by
 rw [z3M p l _ _ (by omega),List.drop_zero]
section
variable {α β ρ:Type}
theorem z2P {W:α->β->Wy α β ρ} {z:ρ} (N:Nat) (ex:Nat->α) (ey:Nat->β) (c:Nat->Bool) (no yes:ρ)
  (h:∀ i,i<N->∀ (H:α->β->Bool×ρ) K D,(W (ex i) (ey i)).ev H K D=bif c i then H (ex (i+1)) (ey (i+1)) else K no)
  (he:∀ (H:α->β->Bool×ρ) K D,(W (ex N) (ey N)).ev H K D=K yes):
  ∀ n i,N<i+n->i<=N->zA W z n (ex i) (ey i)=(true,bif zeb c (N - i) i then yes else no)
 | 0,i,h1,h2=>by omega
 | n+1,i,h1,h2=>by
  show (W (ex i) (ey i)).ev (zA W z n) (λr=>(true,r)) (false,z)=_
  by_cases hi:i<N
  ·rw [h i hi,show N - i=(N - (i+1))+1 by omega]
   simp only [zeb];cases c i with
   | false=>rfl
   | true=>rw [cond_true,z2P N ex ey c no yes h he n (i+1) (by omega) (by omega)]; rfl
  ·have:i=N:=by omega
   subst this;rw [he,Nat.sub_self]; rfl
theorem zcA {W:α->β->Wy α β ρ} {z:ρ} (N:Nat) (ex:Nat->α) (ey:Nat->β) (c:Nat->Bool) (no yes:ρ)
  (h:∀ i,i<N->∀ (H:α->β->Bool×ρ) K D,(W (ex i) (ey i)).ev H K D=bif c i then H (ex (i+1)) (ey (i+1)) else K no)
  (he:∀ (H:α->β->Bool×ρ) K D,(W (ex N) (ey N)).ev H K D=K yes) (n:Nat) (hn:N<n):zA W z n (ex 0) (ey 0)=(true,bif zeb c N 0 then yes else no):=by
 have:=z2P (z:=z) N ex ey c no yes h he n 0 (by omega) (by omega)
 simpa using this
end
def ixf {α:Type} (p:α->Bool):List α->Nat->Int
 | [],_=> -1
 | x::r,i=>bif p x then (i:Int) else ixf p r (i+1)
theorem z5Z {α:Type} (p:α->Bool):∀ (l:List α) (i:Nat),decide (ixf p l i≥(0:Int))=l.any p
 | [],i=>by simp [ixf]
 | x::r,i=>by
  rw [List.any_cons];cases h:p x with
  | true=>simp [ixf,h]
  | false=>simpa [ixf,h] using z5Z p r (i+1)
section
variable {α γ:Type} [Inhabited α]
def z2w (p:γ->α->Bool×Bool) (s:List α) (g:γ) (t7:Int) (t8:Int):Wy (List α×γ×Int×Int×Unit) Unit (Int⊕Unit):=.i (decide (t8<t7)) (.i (decide ((0:Int)<=t8)&&decide (t8<Int.ofNat s.length)) (.bn (p g (s.getD t8.toNat default)) λr0=>.i (r0) (.k (.inl t8)) (.h (s,g,t7,(IntKind.i64.wrap (t8+(1:Int))),()) ())) .d) (.k (.inr ()))
def z6J (p:γ->α->Bool×Bool) (x:List α×γ×Int×Int×Unit) (y:Unit):Wy (List α×γ×Int×Int×Unit) Unit (Int⊕Unit):=z2w p x.1 x.2.1 x.2.2.1 x.2.2.2.1
def z6P (p:γ->α->Bool×Bool) (n:Nat) (s:List α) (g:γ) (t7:Int) (t8:Int):Bool×(Int⊕Unit):=zA (z6J p) (.inl default) n (s,g,t7,t8,()) ()
def IG (p:γ->α->Bool×Bool) (n:Nat) (g:γ) (s:List α):Bool×Int:=(.bn (z6P p n s g (Int.ofNat s.length) (0:Int)) λr2=>.i (isL r2) (.k (getL r2)) (.k (-1:Int)):Wy0 Int).fin default
def z6f (p:γ->α->Bool×Bool) (s:List α) (g:γ) (t7:Int) (t8:Int):Wy (List α×γ×Int×Int×Unit) Unit (Int⊕Unit):=.i (decide (t8<t7)) (.i (decide ((0:Int)<=t8)&&decide (t8<Int.ofNat s.length)) (.i ((p g (s.getD t8.toNat default)).snd) (.k (.inl t8)) (.h (s,g,t7,(IntKind.i64.wrap (t8+(1:Int))),()) ())) .d) (.k (.inr ()))
def zbdP (p:γ->α->Bool×Bool) (x:List α×γ×Int×Int×Unit) (y:Unit):Wy (List α×γ×Int×Int×Unit) Unit (Int⊕Unit):=z6f p x.1 x.2.1 x.2.2.1 x.2.2.2.1
def z65 (p:γ->α->Bool×Bool) (n:Nat) (s:List α) (g:γ) (t7:Int) (t8:Int):Bool×(Int⊕Unit):=zA (zbdP p) (.inl default) n (s,g,t7,t8,()) ()
def IH (p:γ->α->Bool×Bool) (n:Nat) (g:γ) (s:List α):Bool×Int:=(.bn (z65 p n s g (Int.ofNat s.length) (0:Int)) λr2=>.i (isL r2) (.k (getL r2)) (.k (-1:Int)):Wy0 Int).fin default
theorem z5Q (p:γ->α->Bool×Bool) (P:α->Bool) (g:γ) (s:List α) (hs:s.length<=1000000000) (hp:∀ x∈s,p g x=(true,P x)):∀ (n i:Nat),s.length<i+n->i<=s.length->
  ∃ r,z6P p n s g s.length i=(true,r)/\((r=.inl (ixf P (s.drop i) i))\/(r=.inr ()/\ixf P (s.drop i) i= -1))
 | 0,i,h,h2=>by omega
 | n+1,i,h,h2=>by
  show ∃ r,(z2w p s g s.length i).ev (λx y=>z6P p n x.1 x.2.1 x.2.2.1 x.2.2.2.1) (λr=>(true,r)) (false,.inl default)=(true,r)/\_
  unfold z2w;by_cases hi:i<s.length
  ·simp only [Wy.ev_i,Wy.ev_k,Wy.ev_h,Wy.ev_bn,Wy.ev_d,tT,hi,hp _ (zl hi)];rw [zbl hi,zB (by omega)]
   simp only [ixf];cases P (s.getD i default) with
   | true=>exact ⟨_,rfl,.inl rfl⟩
   | false=>exact z5Q p P g s hs hp n (i+1) (by omega) (by omega)
  ·simp only [Wy.ev_i,Wy.ev_k,Wy.ev_h,Wy.ev_bn,Wy.ev_d,tT,hi,zdc hi];exact ⟨_,rfl,.inr ⟨rfl,rfl⟩⟩
theorem zIj (p:γ->α->Bool×Bool) (P:α->Bool) (n:Nat) (g:γ) (s:List α) (hs:s.length<=1000000000) (hp:∀ x∈s,p g x=(true,P x)) (hn:s.length<n):IG p n g s=(true,ixf P s 0):=by
 unfold IG;obtain ⟨r,h1,h2⟩:=z5Q p P g s hs hp n 0 (by omega) (by omega)
 rw [show ((0:Nat):Int)=(0:Int) from rfl] at h1
 rw [Wy.fin_bn,show Int.ofNat s.length=(s.length:Int) from rfl,h1]
 rw [List.drop_zero] at h2;rcases h2 with rfl | ⟨rfl,h2⟩
 ·rfl
 ·rw [h2]; rfl
theorem z5z (p:γ->α->Bool×Bool) (P:α->Bool) (g:γ) (s:List α) (hs:s.length<=1000000000) (hp:∀ x∈s,p g x=(true,P x)):∀ (n i:Nat),s.length<i+n->i<=s.length->
  ∃ r,z65 p n s g s.length i=(true,r)/\((r=.inl (ixf P (s.drop i) i))\/(r=.inr ()/\ixf P (s.drop i) i= -1))
 | 0,i,h,h2=>by omega
 | n+1,i,h,h2=>by
  show ∃ r,(z6f p s g s.length i).ev (λx y=>z65 p n x.1 x.2.1 x.2.2.1 x.2.2.2.1) (λr=>(true,r)) (false,.inl default)=(true,r)/\_
  unfold z6f;by_cases hi:i<s.length
  ·simp only [Wy.ev_i,Wy.ev_k,Wy.ev_h,Wy.ev_bn,Wy.ev_d,tT,hi,hp _ (zl hi)];rw [zbl hi,zB (by omega)]
   simp only [ixf];cases P (s.getD i default) with
   | true=>exact ⟨_,rfl,.inl rfl⟩
   | false=>exact z5z p P g s hs hp n (i+1) (by omega) (by omega)
  ·simp only [Wy.ev_i,Wy.ev_k,Wy.ev_h,Wy.ev_bn,Wy.ev_d,tT,hi,zdc hi];exact ⟨_,rfl,.inr ⟨rfl,rfl⟩⟩
theorem z6k (p:γ->α->Bool×Bool) (P:α->Bool) (n:Nat) (g:γ) (s:List α) (hs:s.length<=1000000000) (hp:∀ x∈s,p g x=(true,P x)) (hn:s.length<n):IH p n g s=(true,ixf P s 0):=by
 unfold IH;obtain ⟨r,h1,h2⟩:=z5z p P g s hs hp n 0 (by omega) (by omega)
 rw [show ((0:Nat):Int)=(0:Int) from rfl] at h1
 rw [Wy.fin_bn,show Int.ofNat s.length=(s.length:Int) from rfl,h1]
 rw [List.drop_zero] at h2;rcases h2 with rfl | ⟨rfl,h2⟩
 ·rfl
 ·rw [h2]; rfl
theorem zla {α:Type} {s:List α} {P:α->Bool} {q:Bool×Int} (h:q=(true,ixf P s 0)):((.bn q λr0=>.k (decide (r0≥(0:Int))):Wy0 Bool).fin default)=(true,s.any P):=by
 rw [h,Wy.fin_bn,cond_true,Wy.fin_k,z5Z]
end
theorem zhD (a b:Int):(a==b)=decide (a=b):=by by_cases h:a=b <;>simp [h]
theorem zW2 (a b:Nat):(a==b)=decide (a=b):=by by_cases h:a=b <;>simp [h]
theorem i0 (l:Nat):((l:Int)==0)=(l==0):=by
 rw [zhD,zW2]; congr 1; simp
def zxC (a:yB):Bool:=a.any λt=>t.Fs.length==0
theorem zNF (a:yB) (h:a.length<=1000000000):zfl a=(true,zxC a):=by
 unfold zfl zyC zdg ziN;have:zdU a=IH (λ(_:Unit) x=>zhM x) (a.length+(Int.ofNat a.length).toNat +Int.toNat (0:Int)+(1:Nat)) () a:=rfl
 rw [zla (P:=λt:Term=>t.Fs.length==0) (this.trans (z6k _ _ _ _ _ h (λx _=>by
  unfold zhM zvu;rw [Wy.fin_k];congr 1;exact i0 x.Fs.length) (by omega)))]
 rfl
theorem zAl (a:yB) (h:a.length<=1000000000):zmB a=(true,zxC a):=by
 unfold zmB zJZ zHF
 have:=zcA (W:=zHR) (z:=.inl default) a.length (λi=>(a,(i:Int),())) (λ_=>()) (λi=> !((a.getD i default).Fs.length==0)) (.inl true) (.inr ())
  (λi hi H K D=>by
   show (zpk a i).ev H K D=_;unfold zpk;simp only [Wy.ev_i,Wy.ev_k,Wy.ev_h,Wy.ev_bn,Wy.ev_d,tT,hi,i0];rw [zB (by omega)]
   cases (a.getD i default).Fs.length==0 <;>rfl)
  (λH K D=>by
   show (zpk a a.length).ev H K D=_;unfold zpk;simp only [Wy.ev_i,Wy.ev_k,tT,Nat.lt_irrefl]) (a.length+Int.toNat (0:Int)+(1:Nat)) (by omega)
 rw [show ((0:Nat):Int)=(0:Int) from rfl] at this
 rw [Wy.fin_bn,this,zyN (λt:Term=> !(t.Fs.length==0)) a]
 have e:(a.all λt:Term=> !(t.Fs.length==0))= !zxC a:=by simp [zxC,List.all_eq_not_any_not]
 rw [e];cases zxC a <;>rfl
def isC:yB->Bool
 | [t]=>t.Fs.length==0
 | _=>false
theorem zRd (a:yB):zh4 a=(true,isC a):=by
 unfold zh4 zzZ
 match a with
 | []=>rfl
 | [t]=>exact congrArg (Prod.mk true) (i0 t.Fs.length)
 | t::u::r=>
  have:((Int.ofNat (t::u::r).length)==(1:Int))=false:=by simp; omega
  rw [Wy.fin_i,this]; rfl
def zbb7 (p:Fc->Bool):yC->Bool
 | [f]=>p f
 | _=>false
def isU:yB->Bool
 | [t]=>t.Cf==1&&zbb7 (λf=>f.Exp==1&&(f.At.Kind==2||f.At.Kind==3||f.At.Kind==4)) t.Fs
 | _=>false
theorem zZ1 (x:At):zfS x=(true,x.Kind==3||x.Kind==4):=by
 unfold zfS zzV;rw [Wy.fin_i,Wy.fin_k,Wy.fin_k];cases x.Kind==3 <;>rfl
theorem zMK {τ:Type} (x y:τ) (r:List τ):((Int.ofNat (x::y::r).length)==(1:Int))=false:=by
 rw [beq_eq_false_iff_ne]; simp; omega
theorem z1x (a:yB):zlJ a=(true,isU a):=by
 unfold zlJ zEg
 match a with
 | []=>rfl
 | ⟨c,[]⟩::[]=>
  show (bif c != 1 then (true,false) else (true,false))=(true,c==1&&false)
  cases c != 1 <;>simp
 | ⟨c,[f]⟩::[]=>
  simp only [Wy.fin_i,Wy.fin_k,tT,isU,List.length_singleton,zZ1,Wy.fin_bn,Wy.fin_d];show (bif c != 1 then (true,false) else bif f.Exp==1 then bif f.At.Kind==2 then (true,true) else (true,f.At.Kind==3||f.At.Kind==4) else (true,false))=(true,c==1&&(f.Exp==1&&(f.At.Kind==2||f.At.Kind==3||f.At.Kind==4)))
  rw [show (c != 1)= !(c==1) from rfl]
  cases c==1 <;>cases f.Exp==1 <;>cases f.At.Kind==2 <;>simp
 | ⟨c,f::g::r⟩::[]=>
  simp only [Wy.fin_i,bne,zMK];show (bif !(c==1) then (true,false) else (true,false))=(true,c==1&&false)
  cases c==1 <;>rfl
 | t::u::r=>rw [Wy.fin_i,bne,zMK]; rfl
def isB:yB->Bool
 | [t]=>t.Cf==1&&zbb7 (λf=>f.Exp==1&&decide (2<=f.At.Kind)) t.Fs
 | _=>false
theorem zLS (a:yB):zyo a=(true,isB a):=by
 unfold zyo zOK
 match a with
 | []=>rfl
 | ⟨c,[]⟩::[]=>
  show (bif c==1 then (true,false) else (true,false))=(true,c==1&&false)
  cases c==1 <;>rfl
 | ⟨c,[f]⟩::[]=>
  simp only [Wy.fin_i,Wy.fin_k,tT,List.length_singleton,Wy.fin_bn,Wy.fin_d];show (bif c==1 then bif decide (2<=f.At.Kind) then (true,f.Exp==1) else (true,false) else (true,false))=(true,c==1&&(f.Exp==1&&decide (2<=f.At.Kind)))
  cases c==1 <;>cases f.Exp==1 <;>cases decide (2<=f.At.Kind) <;>simp
 | ⟨c,f::g::r⟩::[]=>
  rw [Wy.fin_i];show (bif true then (Wy.i true (Wy.i (c==1) (Wy.i true (Wy.i (Int.ofNat (f::g::r).length==1) _ (.k false)) .d) (.k false)) .d:Wy0 Bool).fin default else _)=(true,c==1&&false)
  simp only [Wy.fin_i,Wy.fin_k,zMK,cond_true,cond_false];cases c==1 <;>rfl
 | t::u::r=>rw [Wy.fin_i,zMK]; rfl
theorem zOU (a b:Nat):decide (a>b)= !decide (a<=b):=by
 by_cases h:a<=b
 ·have:¬ a>b:=by omega
  simp [h,this]
 ·have:a>b:=by omega
  simp [h,this]
def zA7 (t:Term):Bool:= !(decide (t.Fs.length>64)||t.Fs.any λf=>decide (f.Exp>64)||decide (f.At.Items.length>1024))
def zfx (a:yB):Bool:=decide (a.length<=512)&&decide (zbj a<=8)&&decide (zM a<=4096)&&a.all zA7
theorem z6F (l:yC) (h:l.length<=1000000):zct l=(true,l.any λf=>decide (f.Exp>64)||decide (f.At.Items.length>1024)):=by
 unfold zct zi4
 have hw:zdy=z6J (λ(_:Unit) x=>zgq x):=by
  funext x y
  unfold zdy zjX z6J z2w;rw [Fc.eta2]
 have:zcP l=IG (λ(_:Unit) x=>zgq x) (l.length+(Int.ofNat l.length).toNat +Int.toNat (0:Int)+(1:Nat)) () l:=by
  unfold zcP zj5 zjW;rw [hw]; rfl
 exact zla (this.trans (zIj _ _ _ _ _ (by omega) (λx _=>by
  unfold zgq zxH;rw [Wy.fin_i,Wy.fin_k,Wy.fin_k];have e:decide (Int.ofNat x.At.Items.length>(1024:Int))=decide (x.At.Items.length>1024):=zly _ 1024;rw [e];cases decide (x.Exp>64) <;>rfl) (by omega)))
theorem z0N {d:Nat} {a:yB} (h:zo d a) (hd:d<=100) (hs:zM a<=4611686018427387904):zlM a=(true,zfx a):=by
 obtain ⟨h1,h2⟩:a.length<=1000000/\∀ t∈a,t.Fs.length<=1000000:=by
  cases d with
  | zero=>exact h.elim
  | succ d=>exact ⟨h.1,λt ht=>(h.2 t ht).1⟩
 have h3:zcm a=(true,a.any λt=> !zA7 t):=by
  unfold zcm ziB;have:zdV a=IG (λ(_:Unit) x=>zld x) (a.length+(Int.ofNat a.length).toNat +Int.toNat (0:Int)+(1:Nat)) () a:=rfl
  exact zla (this.trans (zIj _ _ _ _ _ (by omega) (λx hx=>by
   unfold zld zAN;rw [Wy.fin_i,Wy.fin_k,Wy.fin_bn,z6F _ (h2 x hx)];have e:decide (Int.ofNat x.Fs.length>(64:Int))=decide (x.Fs.length>64):=zly _ 64;rw [e];unfold zA7;cases decide (x.Fs.length>64) <;>simp [Wy.fin_k]) (by omega)))
 unfold zlM zD0;have n1:zyQ a=(true,(zbj a:Int)):=(z0n 1000 d a h (by omega) hd).1
 have n2:zDf a=(true,(zM a:Int)):=(zWW 1000 d a h (by omega) hs).1
 simp only [Wy.fin_i,Wy.fin_k,Wy.fin_bn,n1,n2,h3,cond_true];have e1:decide (Int.ofNat a.length>(512:Int))= !decide (a.length<=512):=by rw [show decide (Int.ofNat a.length>(512:Int))=decide (a.length>512) from zly _ 512]; exact zOU _ _
 have e2:decide ((zbj a:Int)>(8:Int))= !decide (zbj a<=8):=by rw [show decide ((zbj a:Int)>(8:Int))=decide (zbj a>8) from zly _ 8]; exact zOU _ _
 have e3:decide ((zM a:Int)>(4096:Int))= !decide (zM a<=4096):=by rw [show decide ((zM a:Int)>(4096:Int))=decide (zM a>4096) from zly _ 4096]; exact zOU _ _
 have e4:(a.any λt=> !zA7 t)= !a.all zA7:=by simp [List.all_eq_not_any_not]
 rw [e1,e2,e3,e4];unfold zfx;cases decide (a.length<=512) <;>cases decide (zbj a<=8) <;>cases decide (zM a<=4096) <;>simp
theorem zbcY (a:yB) (i:Nat) (hi:i<a.length) (hl:(a.getD i default).Fs.length<=1000000) (fuel:Nat) (hf:(a.getD i default).Fs.length<fuel):
  zRo fuel a i 0=(true,bif (a.getD i default).Fs.any λf=>decide (f.Exp>64)||decide (f.At.Items.length>1024) then .inl false else .inr (a,(i:Int))):=by
 have:=zcA (W:=zRq) (z:=.inl default) (a.getD i default).Fs.length (λk=>(a,(i:Int),(k:Int),())) (λ_=>()) (λk=>(λf:Fc=> !(decide (f.Exp>64)||decide (f.At.Items.length>1024))) ((a.getD i default).Fs.getD k default)) (.inl false) (.inr (a,(i:Int)))
  (λk hk H K D=>by
   show (zwG a i k).ev H K D=_;unfold zwG;simp only [Wy.ev_i,Wy.ev_k,Wy.ev_h,Wy.ev_bn,Wy.ev_d,tT,hi,hk];rw [zB (by omega),show decide ((((a.getD i default).Fs.getD k default).At.Items.length:Int)>(1024:Int))=_ from zly _ 1024]
   cases decide (((a.getD i default).Fs.getD k default).Exp>64) <;>cases decide (1024<((a.getD i default).Fs.getD k default).At.Items.length) <;>rfl)
  (λH K D=>by
   show (zwG a i (a.getD i default).Fs.length).ev H K D=_;unfold zwG;simp only [Wy.ev_i,Wy.ev_k,Wy.ev_h,Wy.ev_bn,Wy.ev_d,tT,hi,Nat.lt_irrefl]) fuel hf
 rw [zyN (λf:Fc=> !(decide (f.Exp>64)||decide (f.At.Items.length>1024)))] at this
 have e:((a.getD i default).Fs.all λf=> !(decide (f.Exp>64)||decide (f.At.Items.length>1024)))= !((a.getD i default).Fs.any λf=>decide (f.Exp>64)||decide (f.At.Items.length>1024)):=by simp [List.all_eq_not_any_not]
 rw [e] at this;refine this.trans ?_;cases (a.getD i default).Fs.any λf=>decide (f.Exp>64)||decide (f.At.Items.length>1024) <;>rfl
theorem z5d {d:Nat} {a:yB} (h:zo d a) (hd:d<=100) (hs:zM a<=4611686018427387904):zHZ a=(true,zfx a):=by
 obtain ⟨h1,h2⟩:a.length<=1000000/\∀ t∈a,t.Fs.length<=1000000:=by
  cases d with
  | zero=>exact h.elim
  | succ d=>exact ⟨h.1,λt ht=>(h.2 t ht).1⟩
 have h3:zRc ((a.length+Int.toNat (0:Int)+(1:Nat))+zgV a) a 0=(true,bif a.all zA7 then .inr () else .inl false):=by
  have:=zcA (W:=zQ5) (z:=.inl default) a.length (λk=>(a,(k:Int),())) (λ_=>()) (λk=>zA7 (a.getD k default)) (.inl false) (.inr ())
   (λk hk H K D=>by
    show (zwl a k).ev H K D=_;unfold zwl;have h4:=h2 _ (zl hk);have h5:=zJL a k hk;simp only [Wy.ev_i,Wy.ev_k,Wy.ev_h,Wy.ev_bn,Wy.ev_d,tT,hk];rw [zbcY a k hk h4 _ (by omega)]
    have e:decide (((a.getD k default).Fs.length:Int)>(64:Int))=decide ((a.getD k default).Fs.length>64):=zly _ 64;rw [e];unfold zA7;cases decide ((a.getD k default).Fs.length>64) <;>cases ((a.getD k default).Fs.any λf=>decide (f.Exp>64)||decide (f.At.Items.length>1024))
    ·simp only [cond_false,cond_true,isL,getR]; rw [zB (by omega)]; rfl
    all_goals rfl)
   (λH K D=>by
    show (zwl a a.length).ev H K D=_;unfold zwl;simp only [Wy.ev_i,Wy.ev_k,Wy.ev_h,Wy.ev_bn,Wy.ev_d,tT,Nat.lt_irrefl]) ((a.length+Int.toNat (0:Int)+(1:Nat))+zgV a) (by omega)
  rw [zyN] at this;exact this
 unfold zHZ zUg;have n1:zRF a=(true,(zbj a:Int)):=(z0n 1000 d a h (by omega) hd).2
 have n2:zYD a=(true,(zM a:Int)):=(zWW 1000 d a h (by omega) hs).2
 simp only [Wy.fin_i,Wy.fin_k,Wy.fin_bn,n1,n2,h3,cond_true];have e1:decide (Int.ofNat a.length>(512:Int))= !decide (a.length<=512):=by rw [show decide (Int.ofNat a.length>(512:Int))=decide (a.length>512) from zly _ 512]; exact zOU _ _
 have e2:decide ((zbj a:Int)>(8:Int))= !decide (zbj a<=8):=by rw [show decide ((zbj a:Int)>(8:Int))=decide (zbj a>8) from zly _ 8]; exact zOU _ _
 have e3:decide ((zM a:Int)>(4096:Int))= !decide (zM a<=4096):=by rw [show decide ((zM a:Int)>(4096:Int))=decide (zM a>4096) from zly _ 4096]; exact zOU _ _
 rw [e1,e2,e3];unfold zfx;cases decide (a.length<=512) <;>cases decide (zbj a<=8) <;>cases decide (zM a<=4096) <;>cases a.all zA7 <;>simp [isL,getL]
def zsB (v:Value):Bool:=(v.Kind==0&&v.Text.size==0)||(v.Kind==1&&v.Int==0&&decide (v.Text.size<=255))||(v.Kind==2&&v.Text.size==0&&(v.Int==0||v.Int==1))
theorem z3b (s:ByteArray):(s.toList==(ByteArray.mk #[]).toList)=(s.size==0):=by
 rw [zCl];by_cases h:s.size=0
 ·have:s=ByteArray.mk #[]:=zFX (by
   have:s.data.toList.length=0:=by simpa using h
   rw [List.length_eq_zero_iff.1 this])
  subst this; rfl
 ·have:¬ s=ByteArray.mk #[]:=λe=>h (by rw [e]; rfl)
  simp [h,this]
theorem zzA (v:Value):zqn v=(true,zsB v):=by
 unfold zqn zRi zsB;simp only [z3b,Wy.fin_i,Wy.fin_k,zhD,zW2];have e:decide (Int.ofNat v.Text.size<=(255:Int))=decide (v.Text.size<=255):=zuS _ 255;rw [e];by_cases h0:v.Kind=0
 ·simp [h0]
 ·by_cases h1:v.Kind=1
  ·by_cases h2:v.Int=0 <;>simp [h1,h2]
  ·by_cases h2:v.Kind=2
   ·by_cases h3:v.Int=0
    ·simp [h2,h3]
    ·by_cases h4:v.Int=1 <;>simp [h2,h3,h4]
   ·simp [h0,h1,h2]
theorem zOe (v:Value):zFb v=(true,zsB v):=by
 unfold zFb zRa zsB;simp only [z3b,Wy.fin_i,Wy.fin_k,zhD,zW2];have e:decide (Int.ofNat v.Text.size<=(255:Int))=decide (v.Text.size<=255):=zuS _ 255;rw [e];by_cases h0:v.Kind=0
 ·simp [h0]
 ·by_cases h1:v.Kind=1
  ·by_cases h2:v.Int=0 <;>simp [h1,h2]
  ·by_cases h2:v.Kind=2
   ·by_cases h3:v.Int=0
    ·by_cases h4:v.Text.size=0 <;>simp [h2,h3,h4]
    ·by_cases h4:v.Text.size=0 <;>simp [h2,h3,h4]
   ·simp [h0,h1,h2]
def zJc (fn:Int) (b:Value) (w:Wd):Bool:=zsB w.Value&&(w.Value.Kind==b.Kind)&& !(fn==0&&w.Value.Int != 1)
def zAj (fn:Int) (l:yD) (op:Int) (b:Value):Bool:=decide (0<=fn)&&decide (fn<=3)&&decide (5<=op)&&decide (op<=10)&&zsB b&& !(decide (fn<=1)&&b.Kind != 0)&&l.all (zJc fn b)
theorem z84 (l:yD) (fn:Int) (b:Value) (h:l.length<=1000000):zbm l b fn=(true, !l.all (zJc fn b)):=by
 unfold zbm zhn;have:zdj l b fn=IG (λ(g:Value×(Int×Unit)×Unit) x=>zie x g.1 g.2.1.1) (l.length+fn.toNat +(Int.ofNat l.length).toNat +Int.toNat (0:Int)+(1:Nat)) (b,(fn,()),()) l:=rfl
 have e:(!l.all (zJc fn b))=l.any λw=> !zJc fn b w:=by simp [List.all_eq_not_any_not]
 rw [e]
 exact zla (this.trans (zIj _ _ _ _ _ (by omega) (λx _=>by
  show zie x b fn=_;unfold zie zz0 zJc;simp only [Wy.fin_i,Wy.fin_k,Wy.fin_bn,zzA,cond_true,zhD,zsD];cases zsB x.Value <;>by_cases h1:x.Value.Kind=b.Kind <;>by_cases h2:fn=0 <;>simp [zhD,zsD,h1,h2]) (by omega)))
theorem zX6 (fn:Int) (l:yD) (op:Int) (b:Value) (h:l.length<=1000000):zkK fn l op b=(true,zAj fn l op b):=by
 unfold zkK zC9 zAj;simp only [Wy.fin_i,Wy.fin_k,Wy.fin_bn,zzA,z84 l fn b h,cond_true,zhD,zsD];by_cases h1:fn<0
 ·have:¬ (0<=fn):=by omega
  simp [h1,this]
 by_cases h2:3<fn
 ·have:¬ (fn<=3):=by omega
  simp [h1,h2,this]
 by_cases h3:op<5
 ·have:¬ (5<=op):=by omega
  simp [h1,h2,h3,this]
 by_cases h4:10<op
 ·have:¬ (op<=10):=by omega
  simp [h1,h2,h3,h4,this]
 have g1:0<=fn:=by omega
 have g2:fn<=3:=by omega
 have g3:5<=op:=by omega
 have g4:op<=10:=by omega
 cases zsB b with
 | false=>simp [h1,h2,h3,h4]
 | true=>
  by_cases h5:fn=0
  ·subst h5; by_cases h6:b.Kind=0 <;>simp [h3,h4,h6,g3,g4]
  ·by_cases h7:fn=1
   ·subst h7; by_cases h6:b.Kind=0 <;>simp [h3,h4,h6,g3,g4]
   ·have:¬ fn<=1:=by omega
    simp [h1,h2,h3,h4,h5,h7,this,g1,g2,g3,g4]
theorem z3V (fn:Int) (l:yD) (op:Int) (b:Value) (h:l.length<=1000000):zFa fn l op b=(true,zAj fn l op b):=by
 unfold zFa zRC zAj
 have hl:zEF (fn.toNat +l.length+Int.toNat (0:Int)+(1:Nat)) fn l (0:Int) b=(true,bif l.all (zJc fn b) then .inr () else .inl false):=by
  have:=zcA (W:=zOa) (z:=.inl default) l.length (λk=>(fn,l,(),(k:Int),())) (λ_=>(b,())) (λk=>zJc fn b (l.getD k default)) (.inl false) (.inr ())
   (λk hk H K D=>by
    show (zuF fn l k b).ev H K D=_;unfold zuF zJc;simp only [Wy.ev_i,Wy.ev_k,Wy.ev_h,Wy.ev_bn,Wy.ev_d,tT,hk,zOe,zhD,zsD];rw [zB (by omega)]
    cases zsB (l.getD k default).Value <;>cases decide ((l.getD k default).Value.Kind=b.Kind) <;>cases decide (fn=0) <;>cases decide ((l.getD k default).Value.Int=1) <;>rfl)
   (λH K D=>by
    show (zuF fn l l.length b).ev H K D=_;unfold zuF;simp only [Wy.ev_i,Wy.ev_k,Wy.ev_h,Wy.ev_bn,Wy.ev_d,tT,Nat.lt_irrefl]) (fn.toNat +l.length+Int.toNat (0:Int)+(1:Nat)) (by omega)
  rw [zyN] at this;exact this
 simp only [Wy.fin_i,Wy.fin_k,Wy.fin_bn,zOe,hl,cond_true,zhD,zsD];by_cases h1:fn<0
 ·have:¬ (0<=fn):=by omega
  simp [h1,this]
 by_cases h2:3<fn
 ·have:¬ (fn<=3):=by omega
  simp [h1,h2,this]
 by_cases h3:op<5
 ·have:¬ (5<=op):=by omega
  simp [h1,h2,h3,this]
 by_cases h4:10<op
 ·have:¬ (op<=10):=by omega
  simp [h1,h2,h3,h4,this]
 have g1:0<=fn:=by omega
 have g2:fn<=3:=by omega
 have g3:5<=op:=by omega
 have g4:op<=10:=by omega
 cases zsB b with
 | false=>simp [h1,h2,h3,h4]
 | true=>
  by_cases h5:fn<=1
  ·by_cases h6:b.Kind=0
   ·cases l.all (zJc fn b) <;>simp [h1,h2,h3,h4,h5,h6,g1,g2,g3,g4,isL,getL]
   ·simp [h1,h2,h3,h4,h5,h6,g1,g2,g3,g4]
  ·cases l.all (zJc fn b) <;>simp [h1,h2,h3,h4,h5,g1,g2,g3,g4,isL,getL]
def bz (b:Value):Bool:=b.Kind==(0:Int)&&(b.Int==(0:Int)&&(b.Text.toList==(ByteArray.mk #[]).toList&&true))
def plA (x:At):Bool:=x.Func==0&&(x.Items.length==0)&&x.Op==0&&bz x.Bd
theorem z89 (x:At):zxa x=(true,plA x):=by
 unfold zxa zRz plA;simp only [Wy.fin_i,Wy.fin_k,Int.ofNat_eq_natCast,i0];show _=(true,_&&_&&_&&bz x.Bd);rw [show (x.Bd.Kind==(0:Int)&&(x.Bd.Int==(0:Int)&&(x.Bd.Text.toList==(ByteArray.mk #[]).toList&&true)))=bz x.Bd from rfl]
 cases x.Func==0 <;>cases x.Items.length==0 <;>cases x.Op==0 <;>rfl
def zPI (l:yD) (k:Nat):Bool:=decide (k=0)||decide (z8 (z7 (l.getD (k - 1) default)) (z7 (l.getD k default))<=0)
def zUx (l:yD):Bool:=zeb (zPI l) l.length 0
theorem zTI (c:Nat->Bool):∀ n i,zeb c (n+1) i=(zeb c n i&&c (i+n))
 | 0,i=>by simp [zeb]
 | n+1,i=>by
  rw [zeb,zTI c n (i+1),zeb,show i+1+n=i+(n+1) by omega,Bool.and_assoc]
theorem zRx {d:Nat} (l:yD) (hl:l.length<=1000000) (h:∀ w∈l,zo d w.Ann) (hd:d<=99):∀ (n i:Nat),i<l.length->i<n->zeC n l i=(true,bif zeb (zPI l) (i+1) 0 then .inr () else .inl false)
 | 0,i,hi,hn=>by omega
 | n+1,i,hi,hn=>by
  show (zeB l i).ev (λx y=>zeC n x.1 x.2.2.1) (λr=>(true,r)) (false,.inl default)=_
  unfold zeB;have hg:decide ((i:Int)>(0:Int))=decide (0<i):=zly i 0;cases i with
  | zero=>simp [Wy.ev_i,Wy.ev_k,zeb,zPI]
  | succ i=>
   have hi':i<l.length:=by omega
   have hw:IntKind.i64.wrap (((i+1:Nat):Int) - 1)=(i:Int):=by rw [zys (by omega) (by omega)]; rfl
   have hp:decide (0<i+1)=true:=by simp
   simp only [Wy.ev_i,Wy.ev_k,Wy.ev_h,Wy.ev_bn,Wy.ev_d,hg,hp,hw,tT,hi,hi',zkn (h _ (zl hi)) hd];rw [zRx l hl h hd n i hi' (by omega),zTI _ (i+1),Nat.zero_add]
   have:zPI l (i+1)= !decide (z8 (z7 (l.getD (i+1) default)) (z7 (l.getD i default))<0):=by
    unfold zPI;rw [show i+1 - 1=i from rfl,zgm (z7 (l.getD (i+1) default)) (z7 (l.getD i default))]
    generalize z8 (z7 (l.getD (i+1) default)) (z7 (l.getD i default))=z;by_cases hz:z<0
    ·have:¬ (-z<=0):=by omega
     simp [hz,this]
    ·have:(-z<=0):=by omega
     simp [hz,this]
   rw [this];cases decide (z8 (z7 (l.getD (i+1) default)) (z7 (l.getD i default))<0) <;>simp
theorem z4R {d:Nat} (l:yD) (hl:l.length<=1000000) (h:∀ w∈l,zo d w.Ann) (hd:d<=99):zcl l=(true,zUx l):=by
 unfold zcl zir zUx
 match l,hl,h with
 | [],_,_=>rfl
 | x::r,hl,h=>
  have hw:IntKind.i64.wrap (Int.ofNat (x::r).length - 1)=(r.length:Int):=by
   rw [qf] at hl;rw [show Int.ofNat (x::r).length=(((x::r).length:Nat):Int) from rfl,zys (by simp) (by simp; omega)]; rfl
  rw [Wy.fin_bn,hw,zRx (x::r) hl h hd _ r.length (by simp) (by simp; omega)]
  cases zeb (zPI (x::r)) (r.length+1) 0 with
  | true=>simp [Wy.fin_i,Wy.fin_k,isL]
  | false=>simp [Wy.fin_i,Wy.fin_k,isL,getL]
section
variable {τ:Type} [Inhabited τ]
theorem zOS (A B:List τ) (x:τ):(A++x::B).getD A.length default=x:=by
 rw [List.getD_eq_getElem?_getD,List.getElem?_append_right (Nat.le_refl _)]; simp
theorem zNE (A B:List τ) (x y:τ):(A++x::B).set A.length y=A++y::B:=by
 rw [List.set_append_right _ _ (Nat.le_refl _)]; simp
theorem zVg (A B C:List τ) (x y:τ):(A++x::(B++y::C)).getD (A.length+1+B.length) default=y:=by
 have:=zOS (A++x::B) C y;rw [qg,qf,show A.length+(B.length+1)=A.length+1+B.length by omega,List.append_assoc,List.cons_append] at this
 exact this
theorem zVr (A B C:List τ) (x y z:τ):(A++x::(B++y::C)).set (A.length+1+B.length) z=A++x::(B++z::C):=by
 have:=zNE (A++x::B) C y z;rw [qg,qf,show A.length+(B.length+1)=A.length+1+B.length by omega,List.append_assoc,List.cons_append,List.append_assoc,List.cons_append] at this
 exact this
def swD (P X M Y S:List τ) (i:Nat):List τ:=P++Y.take i++X.drop i++M++X.take i++Y.drop i++S
theorem z8J {P X M Y S:List τ} {i:Nat} (hx:X.length=Y.length) (hi:i<X.length):
  swD P X M Y S i=(P++Y.take i)++X.getD i default::((X.drop (i+1)++M++X.take i)++Y.getD i default::(Y.drop (i+1)++S)):=by
 unfold swD;rw [zbl hi,zbl (show i<Y.length by omega)]
 simp only [List.append_assoc,List.cons_append]
theorem z8Z {P X M Y S:List τ} {i:Nat} (hx:X.length=Y.length) (hi:i<X.length):
  swD P X M Y S (i+1)=(P++Y.take i)++Y.getD i default::((X.drop (i+1)++M++X.take i)++X.getD i default::(Y.drop (i+1)++S)):=by
 unfold swD;rw [zha hi,zha (show i<Y.length by omega)]
 simp only [List.append_assoc,List.cons_append,List.nil_append]
end
theorem z6q (P X M Y S:yF) (hx:X.length=Y.length) (hN:(P++X++M++Y++S).length<=1000000) (a b n:Int) (ha:a=(P.length:Int)) (hb:b=((P.length+X.length+M.length:Nat):Int)) (hn:n=(X.length:Int)):
  zcT (P++X++M++Y++S) a b n=(true,P++Y++M++X++S):=by
 subst ha hb hn;simp only [qg] at hN;unfold zcT zqq
 have h:=zcA (W:=zjI) (z:=default) X.length (λi=>((),(P.length:Int),((P.length+X.length+M.length:Nat):Int),(X.length:Int),(i:Int),())) (λi=>(swD P X M Y S i,())) (λ_=>true) default (P++Y++M++X++S)
  (λi hi H K D=>by
   show (zej P.length (P.length+X.length+M.length:Nat) X.length i (swD P X M Y S i)).ev H K D=_;unfold zej;have hlt:List.length (X.take i)=i:=by rw [List.length_take]; omega
   have hlt2:List.length (Y.take i)=i:=by rw [List.length_take]; omega
   have wa:IntKind.i64.wrap ((P.length:Int)+(i:Int))=(((P++Y.take i).length:Nat):Int):=by rw [zbM (by omega) (by omega),qg,hlt2]; omega
   have wb:IntKind.i64.wrap (((P.length+X.length+M.length:Nat):Int)+(i:Int))=(((P++Y.take i).length+1+(X.drop (i+1)++M++X.take i).length:Nat):Int):=by
    rw [zbM (by omega) (by omega)]
    simp only [qg,List.length_drop,hlt,hlt2]; omega
   rw [z8J hx hi,wa,wb];generalize hA:P++Y.take i=A;generalize hB:X.drop (i+1)++M++X.take i=B;generalize hC:Y.drop (i+1)++S=C;generalize hxx:X.getD i default=x;generalize hyy:Y.getD i default=y;have l1:(A++x::(B++y::C)).length=A.length+1+B.length+1+C.length:=by simp only [qg,qf]; omega
   have l2:(A++y::(B++y::C)).length=A.length+1+B.length+1+C.length:=by simp only [qg,qf]; omega
   have g1:(decide ((0:Int)<=((A.length+1+B.length:Nat):Int))&&decide (((A.length+1+B.length:Nat):Int)<Int.ofNat (A++x::(B++y::C)).length))=true:=by rw [l1]; simp only [qc,qe,Int.ofNat_eq_natCast]; omega
   have g2:(decide ((0:Int)<=((A.length:Nat):Int))&&decide (((A.length:Nat):Int)<Int.ofNat (A++x::(B++y::C)).length))=true:=by rw [l1]; simp only [qc,qe,Int.ofNat_eq_natCast]; omega
   have g3:decide (A.length<(A++x::(B++y::C)).length)=true:=by rw [l1,qe]; omega
   have g4:(decide ((0:Int)<=((A.length+1+B.length:Nat):Int))&&decide (((A.length+1+B.length:Nat):Int)<Int.ofNat (A++y::(B++y::C)).length))=true:=by rw [l2]; simp only [qc,qe,Int.ofNat_eq_natCast]; omega
   have g5:decide (A.length+1+B.length<(A++y::(B++y::C)).length)=true:=by rw [l2,qe]; omega
   have gi:decide ((i:Int)<(X.length:Int))=true:=by rw [qe]; omega
   simp only [Wy.ev_i,Wy.ev_k,Wy.ev_h,Wy.ev_bn,Wy.ev_d,Int.toNat_natCast,gi,g1,g2,g3,zVg,zOS,zNE,g4,g5,zVr,cond_true];rw [zB (by omega),z8Z hx hi,hA,hB,hC,hxx,hyy])
  (λH K D=>by
   show (zej P.length (P.length+X.length+M.length:Nat) X.length X.length (swD P X M Y S X.length)).ev H K D=_;unfold zej;have gi:decide ((X.length:Int)<(X.length:Int))=false:=by rw [decide_eq_false_iff_not]; omega
   have e:swD P X M Y S X.length=P++Y++M++X++S:=by
    unfold swD;rw [List.drop_length,List.take_length,hx,List.take_length,List.drop_length]; simp
   simp only [Wy.ev_i,Wy.ev_k,gi,cond_false,e])
  (Int.toNat (P.length:Int)+Int.toNat ((P.length+X.length+M.length:Nat):Int)+Int.toNat (X.length:Int)+Int.toNat (0:Int)+(P++X++M++Y++S).length+(1000:Nat)) (by simp only [Int.toNat_natCast]; omega)
 rw [show zeb (λ_=>true) X.length 0=true from zdB.2 λ_ _ _=>rfl] at h
 have e0:swD P X M Y S 0=P++X++M++Y++S:=by unfold swD; simp
 rw [e0] at h;have h:zpa (Int.toNat (P.length:Int)+Int.toNat ((P.length+X.length+M.length:Nat):Int)+Int.toNat (X.length:Int)+Int.toNat (0:Int)+(P++X++M++Y++S).length+(1000:Nat)) P.length (P.length+X.length+M.length:Nat) X.length 0 (P++X++M++Y++S)=_:=h;rw [Wy.fin_bn,h]; rfl
theorem zXP (T:yF) (m:Nat) (hm:m<=1000000):∀ (n:Nat) (A X Y B:yF),(A++X++Y++B).length<=1000000->A.length+X.length=m->0<X.length->0<Y.length->X.length+Y.length<=n->A++Y++X++B=T->
  ∃ A' X' Y' B',zk3 n m X.length Y.length (A++X++Y++B)=(true,((m:Int),(X'.length:Int),A'++X'++Y'++B'))/\X'.length=Y'.length/\A'.length+X'.length=m/\(A'++X'++Y'++B').length<=1000000/\A'++Y'++X'++B'=T
 | 0,A,X,Y,B,_,_,h1,h2,h3,_=>by omega
 | n+1,A,X,Y,B,hN,hA,hX,hY,hn,hT=>by
  show ∃ A' X' Y' B',(zkY m X.length Y.length (A++X++Y++B)).ev (λx y=>zk3 n x.2.1 x.2.2.2.1 x.2.2.2.2.1 y.1) (λr=>(true,r)) (false,default)=_/\_
  unfold zkY;simp only [qg] at hN;by_cases hij:X.length=Y.length
  ·have e:((X.length:Int) != (Y.length:Int))=false:=by rw [hij]; simp
   simp only [Wy.ev_i,Wy.ev_k,e,cond_false];exact ⟨A,X,Y,B,rfl,hij,hA,by simp only [qg]; omega,hT⟩
  ·have e:((X.length:Int) != (Y.length:Int))=true:=by rw [bne_iff_ne]; omega
   by_cases hgt:Y.length<X.length
   ·have e2:decide ((X.length:Int)>(Y.length:Int))=true:=by rw [qe]; omega
    have hs:=z6q A (X.take Y.length) (X.drop Y.length) Y B (by rw [List.length_take]; omega) (by simp only [qg,List.length_take,List.length_drop]; omega) (IntKind.i64.wrap ((m:Int) - (X.length:Int))) (m:Int) (Y.length:Int)
     (by rw [zbM (by omega) (by omega)]; omega) (by rw [List.length_take,List.length_drop]; omega) (by rw [List.length_take]; omega)
    have ed:A++X.take Y.length++X.drop Y.length++Y++B=A++X++Y++B:=by rw [List.append_assoc A,List.take_append_drop]
    rw [ed] at hs;simp only [Wy.ev_i,Wy.ev_k,Wy.ev_h,Wy.ev_bn,e,e2,hs,cond_true];have wx:IntKind.i64.wrap ((X.length:Int) - (Y.length:Int))=((X.drop Y.length).length:Int):=by rw [zbM (by omega) (by omega),List.length_drop]; omega
    have wy:(Y.length:Int)=((X.take Y.length).length:Int):=by rw [List.length_take]; omega
    rw [wx]
    have ih:=zXP T m hm n (A++Y) (X.drop Y.length) (X.take Y.length) B (by simp only [qg,List.length_take,List.length_drop]; omega) (by simp only [qg,List.length_drop]; omega) (by rw [List.length_drop]; omega) (by rw [List.length_take]; omega) (by rw [List.length_drop,List.length_take]; omega)
     (by rw [<- hT]; (conv=>rhs; rw [<- List.take_append_drop Y.length X]); simp only [List.append_assoc])
    rw [<- wy] at ih;exact ih
   ·have e2:decide ((X.length:Int)>(Y.length:Int))=false:=by rw [decide_eq_false_iff_not]; omega
    have hs:=z6q A X (Y.take (Y.length - X.length)) (Y.drop (Y.length - X.length)) B (by rw [List.length_drop]; omega) (by simp only [qg,List.length_take,List.length_drop]; omega) (IntKind.i64.wrap ((m:Int) - (X.length:Int))) (IntKind.i64.wrap (IntKind.i64.wrap ((m:Int)+(Y.length:Int)) - (X.length:Int))) (X.length:Int)
     (by rw [zbM (by omega) (by omega)]; omega) (by rw [zbM (z:=(m:Int)+(Y.length:Int)) (by omega) (by omega),zbM (by omega) (by omega),List.length_take]; omega) rfl
    have ed:A++X++Y.take (Y.length - X.length)++Y.drop (Y.length - X.length)++B=A++X++Y++B:=by rw [List.append_assoc (A++X),List.take_append_drop]
    rw [ed] at hs;simp only [Wy.ev_i,Wy.ev_k,Wy.ev_h,Wy.ev_bn,e,e2,hs,cond_true,cond_false];have wx:IntKind.i64.wrap ((Y.length:Int) - (X.length:Int))=((Y.take (Y.length - X.length)).length:Int):=by rw [zbM (by omega) (by omega),List.length_take]; omega
    have wy:(X.length:Int)=((Y.drop (Y.length - X.length)).length:Int):=by rw [List.length_drop]; omega
    rw [wx]
    have ih:=zXP T m hm n A (Y.drop (Y.length - X.length)) (Y.take (Y.length - X.length)) (X++B) (by simp only [qg,List.length_take,List.length_drop]; omega) (by rw [List.length_drop]; omega) (by rw [List.length_drop]; omega) (by rw [List.length_take]; omega) (by rw [List.length_drop,List.length_take]; omega)
     (by rw [<- hT]; (conv=>rhs; rw [<- List.take_append_drop (Y.length - X.length) Y]); simp only [List.append_assoc])
    rw [<- wy] at ih
    simpa only [List.append_assoc] using ih
theorem zbd4 (P X Y S:yF) (hN:(P++X++Y++S).length<=1000000) (h1:0<X.length) (h2:0<Y.length) (a m b:Int) (ha:a=(P.length:Int)) (hm:m=((P.length+X.length:Nat):Int)) (hb:b=((P.length+X.length+Y.length:Nat):Int)):
  zdD (P++X++Y++S) a m b=(true,P++Y++X++S):=by
 subst ha hm hb;have hN':=hN;simp only [qg] at hN';unfold zdD zs0;have w1:IntKind.i64.wrap (((P.length+X.length:Nat):Int) - (P.length:Int))=(X.length:Int):=by rw [zbM (by omega) (by omega)]; omega
 have w2:IntKind.i64.wrap (((P.length+X.length+Y.length:Nat):Int) - ((P.length+X.length:Nat):Int))=(Y.length:Int):=by rw [zbM (by omega) (by omega)]; omega
 rw [w1,w2];obtain ⟨A,X',Y',B,e,k1,k2,k3,k4⟩:=zXP (P++Y++X++S) (P.length+X.length) (by omega) (Int.toNat ((P.length+X.length:Nat):Int)+Int.toNat (X.length:Int)+Int.toNat (Y.length:Int)+(P++X++Y++S).length+(1000:Nat)) P X Y S hN rfl h1 h2 (by simp only [qg,Int.toNat_natCast]; omega) rfl
 rw [Wy.fin_bn,e];have k3':=k3;simp only [qg] at k3';have hs:=z6q A X' [] Y' B k1 (by simp only [qg,List.length_nil]; omega) (IntKind.i64.wrap (((P.length+X.length:Nat):Int) - (X'.length:Int))) ((P.length+X.length:Nat):Int) (X'.length:Int) (by rw [zbM (by omega) (by omega)]; omega) (by simp only [List.length_nil]; omega) rfl
 rw [List.append_nil,List.append_nil] at hs;simp only [cond_true];rw [Wy.fin_bn,hs,k4]; rfl
theorem zVh {i j:Nat} (h:i+j<=4000000):IntKind.i64.wrap ((IntKind.u64.wrap (IntKind.i64.wrap ((i:Int)+(j:Int)))).fdiv ((2:Int) ^ min (Int.toNat (1:Int)) IntKind.u64.bits))=(((i+j) / 2:Nat):Int):=by
 have e1:IntKind.i64.wrap ((i:Int)+(j:Int))=((i+j:Nat):Int):=by rw [zbM (by omega) (by omega)]; omega
 have e2:IntKind.u64.wrap ((i+j:Nat):Int)=((i+j:Nat):Int):=by
  simp only [IntKind.wrap,IntKind.bits,IntKind.signed];simp;omega
 have e3:((2:Int) ^ min (Int.toNat (1:Int)) IntKind.u64.bits)=2:=by decide
 rw [e1,e2,e3]
 have e4:(((i+j:Nat):Int)).fdiv 2=(((i+j) / 2:Nat):Int):=by
  rw [Int.fdiv_eq_ediv_of_nonneg _ (by omega)]; omega
 rw [e4,zbM (by omega) (by omega)]
structure CW (U:Row->Prop):Prop where
 ends : ∀ x y, U x -> U y -> ∃ z, zbV x y = (true, z)
def ltW (x y:Row):Prop:=(zbV x y).2<0
theorem CW.eq {U:Row->Prop} (h:CW U) {x y:Row} (hx:U x) (hy:U y):zbV x y=(true,(zbV x y).2):=by
 obtain ⟨z,e⟩:=h.ends x y hx hy;rw [e]
theorem zbat {U:Row->Prop} (hU:CW U) (P S:yF) (a b i:Int) (ha:a=(P.length:Int)):∀ (n:Nat) (L R:yF) (x:Row),(P++L++x::(R++S)).length<=1000000->L.length<n->U x->(∀ y∈L,U y)->
  ∃ L' R',zhE n a b i ((P.length+L.length:Nat):Int) (P++L++x::(R++S))=(true,(a,b,i,P++L'++x::(R'++S)))/\L'++R'=L++R/\(∀ r∈R',r∈R\/ltW x r)/\(L'=[]\/∃ L0 y,L'=L0++[y]/\¬ ltW x y)
 | 0,L,R,x,hN,hn,_,_=>by omega
 | n+1,L,R,x,hN,hn,hx,hL=>by
  subst ha;simp only [qg,qf] at hN;show ∃ L' R',(zhG P.length b i (P.length+L.length:Nat) (P++L++x::(R++S))).ev (λx y=>zhE n x.2.1 x.2.2.1 x.2.2.2.2.1 x.2.2.2.2.2.1 y.1) (λr=>(true,r)) (false,default)=_/\_
  unfold zhG;rcases List.eq_nil_or_concat L with rfl | ⟨L0,y,rfl⟩
  ·have e:decide (((P.length+([]:yF).length:Nat):Int)>(P.length:Int))=false:=by rw [decide_eq_false_iff_not]; simp
   simp only [Wy.ev_i,Wy.ev_k,e,cond_false];exact ⟨[],R,rfl,rfl,λr hr=>.inl hr,.inl rfl⟩
  ·rw [List.concat_eq_append] at *;simp only [qg,List.length_singleton] at hN hn;have e:decide (((P.length+(L0++[y]).length:Nat):Int)>(P.length:Int))=true:=by rw [qe]; simp; omega
   have ed:P++(L0++[y])++x::(R++S)=(P++L0)++y::([]++x::(R++S)):=by simp
   have ej:((P.length+(L0++[y]).length:Nat):Int)=(((P++L0).length+1+([]:yF).length:Nat):Int):=by simp; omega
   have wj:IntKind.i64.wrap ((((P++L0).length+1+([]:yF).length:Nat):Int) - 1)=(((P++L0).length:Nat):Int):=by
    simp only [qg,List.length_nil];rw [zbM (by omega) (by omega)]; omega
   have hlen:∀ u v:Row,((P++L0)++u::([]++v::(R++S))).length=P.length+L0.length+1+1+R.length+S.length:=λu v=>by simp only [qg,qf,List.length_nil]; omega
   have g1:∀ u v:Row,(decide ((0:Int)<=(((P++L0).length+1+([]:yF).length:Nat):Int))&&decide ((((P++L0).length+1+([]:yF).length:Nat):Int)<Int.ofNat ((P++L0)++u::([]++v::(R++S))).length))=true:=λu v=>by
    rw [hlen]; simp only [qc,qe,Int.ofNat_eq_natCast,qg,List.length_nil]; omega
   have g2:∀ u v:Row,(decide ((0:Int)<=(((P++L0).length:Nat):Int))&&decide ((((P++L0).length:Nat):Int)<Int.ofNat ((P++L0)++u::([]++v::(R++S))).length))=true:=λu v=>by
    rw [hlen]; simp only [qc,qe,Int.ofNat_eq_natCast,qg]; omega
   have g3:∀ u v:Row,decide ((P++L0).length+1+([]:yF).length<((P++L0)++u::([]++v::(R++S))).length)=true:=λu v=>by
    rw [hlen,qe]; simp only [qg,List.length_nil]; omega
   have g4:∀ u v:Row,decide ((P++L0).length<((P++L0)++u::([]++v::(R++S))).length)=true:=λu v=>by
    rw [hlen,qe]; simp only [qg]; omega
   obtain ⟨z,ez⟩:=hU.ends x y hx (hL y (by simp))
   have hz:ltW x y↔z<0:=by unfold ltW; rw [ez]
   rw [e,ed,ej,wj];simp only [Wy.ev_i,Wy.ev_k,Wy.ev_h,Wy.ev_bn,Wy.ev_d,Int.toNat_natCast,g1,g2,g3,g4,zVg,zOS,zVr,zNE,cond_true,ez];by_cases hlt:z<0
   ·rw [decide_eq_true hlt,cond_true];obtain ⟨L',R',k1,k2,k3,k4⟩:=zbat hU P S P.length b i rfl n L0 (y::R) x (by simp only [qg,qf]; omega) (by omega) hx (λz hz=>hL z (by simp [hz]))
    refine ⟨L',R', ?_,by rw [k2]; simp,λr hr=> ?_,k4⟩
    ·rw [<- k1];simp
    ·rcases k3 r hr with h | h
     ·rcases qd.1 h with rfl | h
      ·exact .inr (hz.2 hlt)
      ·exact .inl h
     ·exact .inr h
   ·rw [decide_eq_false hlt,cond_false];refine ⟨L0++[y],R, ?_,rfl,λr hr=>.inl hr,   .inr ⟨L0,y,rfl,λh=>hlt (hz.1 h)⟩⟩
    simp
abbrev ze1 (l:yF):Prop:=l.Pairwise λx y=>¬ ltW y x
structure OW (U:Row->Prop):Prop extends CW U where
 asym:∀ x y,U x->U y->ltW x y->¬ ltW y x
 ntr:∀ x y z,U x->U y->U z->¬ ltW x y->¬ ltW y z->¬ ltW x z
def clW (v y:Row):Bool:=decide (¬ (zbV v y).2<0)&&decide (¬ (zbV y v).2<0)
theorem zU2 {v y:Row}:clW v y=true↔¬ ltW v y/\¬ ltW y v:=by unfold clW ltW; simp
structure PS (U:Row->Prop) (Z L:yF):Prop where
 perm:Z.Perm L
 stab:∀ v,U v->Z.filter (clW v)=L.filter (clW v)
theorem PS.refl {U:Row->Prop} (L:yF):PS U L L:=⟨.refl _,λ_ _=>rfl⟩
theorem PS.trans {U:Row->Prop} {A B C:yF} (h:PS U A B) (k:PS U B C):PS U A C:=⟨h.perm.trans k.perm,λv hv=>(h.stab v hv).trans (k.stab v hv)⟩
theorem PS.append {U:Row->Prop} {A B C D:yF} (h:PS U A B) (k:PS U C D):PS U (A++C) (B++D):=⟨h.perm.append k.perm,λv hv=>by rw [List.filter_append,List.filter_append,h.stab v hv,k.stab v hv]⟩
theorem PS.swap {U:Row->Prop} (h:OW U) {A B:yF} (hA:∀ y∈A,U y) (hB:∀ y∈B,U y) (hl:∀ a∈A,∀ b∈B,ltW a b\/ltW b a):PS U (A++B) (B++A):=⟨List.perm_append_comm,λv hv=>by
 rw [List.filter_append,List.filter_append];cases ea:A.filter (clW v) with
 | nil=>simp
 | cons a A'=>
  cases eb:B.filter (clW v) with
  | nil=>simp
  | cons b B'=>
   exfalso;obtain ⟨a1,a2⟩:=List.mem_filter.1 (show a∈A.filter (clW v) by rw [ea]; simp)
   obtain ⟨b1,b2⟩:=List.mem_filter.1 (show b∈B.filter (clW v) by rw [eb]; simp)
   obtain ⟨a3,a4⟩:=zU2.1 a2;obtain ⟨b3,b4⟩:=zU2.1 b2;rcases hl a a1 b b1 with h1 | h1
   ·exact h.ntr a v b (hA a a1) hv (hB b b1) a4 b3 h1
   ·exact h.ntr b v a (hB b b1) hv (hA a a1) b4 a3 h1⟩
theorem z6Q {U:Row->Prop} (h:OW U) {L R:yF} {x:Row} (hx:U x) (hL:∀ y∈L++R,U y) (hs:ze1 (L++R)) (h1:∀ r∈R,ltW x r) (h2:L=[]\/∃ L0 y,L=L0++[y]/\¬ ltW x y):ze1 (L++x::R):=by
 have hs':=List.pairwise_append.1 hs;refine List.pairwise_append.2 ⟨hs'.1,qi.2 ⟨λr hr=>h.asym x r hx (hL r (by simp [hr])) (h1 r hr),hs'.2.1⟩,λy hy z hz=> ?_⟩
 rcases qd.1 hz with rfl | hz
 ·rcases h2 with rfl | ⟨L0,w,rfl,hw⟩
  ·cases hy
  ·rcases List.mem_append.1 hy with hy | hy
   ·have:=(List.pairwise_append.1 hs'.1).2.2 y hy w (by simp)
    exact h.ntr z w y hx (hL w (by simp)) (hL y (by simp [hy])) hw this
   ·rw [qh.1 hy]; exact hw
 ·exact hs'.2.2 y hy z hz
theorem zbal {U:Row->Prop} (h:OW U) (P S:yF) (a b:Int) (ha:a=(P.length:Int)):∀ (n:Nat) (Z1 Z2:yF),(P++Z1++Z2++S).length<=1000000->b=((P.length+Z1.length+Z2.length:Nat):Int)->Z2.length<n->(∀ y∈Z1,U y)->(∀ y∈Z2,U y)->ze1 Z1->Z1.length<=900->
  Z1.length+Z2.length<=900->∃ Z,zdq n a b ((P.length+Z1.length:Nat):Int) (P++Z1++Z2++S)=(true,P++Z++S)/\PS U Z (Z1++Z2)/\ze1 Z
 | 0,Z1,Z2,hN,hb,hn,_,_,_,_,_=>by omega
 | n+1,Z1,Z2,hN,hb,hn,u1,u2,hs,h9,h99=>by
  simp only [qg] at hN;show ∃ Z,(zdn a b (P.length+Z1.length:Nat) (P++Z1++Z2++S)).ev (λx y=>zdq n x.2.1 x.2.2.1 x.2.2.2.2.1 y.1) (λr=>(true,r)) (false,default)=_/\_
  unfold zdn;cases Z2 with
  | nil=>
   have e:decide (((P.length+Z1.length:Nat):Int)<b)=false:=by rw [decide_eq_false_iff_not,hb]; simp
   simp only [Wy.ev_i,Wy.ev_k,e,cond_false];exact ⟨Z1,by simp,by rw [List.append_nil]; exact PS.refl _,hs⟩
  | cons x Z2=>
   simp only [qf] at hN hb hn h99;have e:decide (((P.length+Z1.length:Nat):Int)<b)=true:=by rw [qe,hb]; omega
   obtain ⟨L',R',k1,k2,k3,k4⟩:=zbat h.toCW P (Z2++S) a b ((P.length+Z1.length:Nat):Int) ha (a.toNat +b.toNat +(P.length+Z1.length)+(P.length+Z1.length)+(P++Z1++x::Z2++S).length+1000) Z1 [] x (by simp only [qg,qf,List.length_nil]; omega) (by omega) (u2 x (by simp)) u1
   have ed:P++Z1++x::([]++(Z2++S))=P++Z1++x::Z2++S:=by simp
   rw [ed] at k1;simp only [Wy.ev_i,Wy.ev_k,Wy.ev_h,Wy.ev_bn,Wy.ev_d,e,cond_true,Int.toNat_natCast,k1];rw [List.append_nil] at k2
   have hlen:(L'++x::R').length=Z1.length+1:=by
    have:=congrArg List.length k2;simp only [qg,qf] at *; omega
   have hsl:ze1 (L'++x::R'):=z6Q h (u2 x (by simp)) (λy hy=>by rw [k2] at hy; exact u1 y hy) (by rw [k2]; exact hs) (λr hr=>by
    rcases k3 r hr with h | h
    ·cases h
    ·exact h) k4
   have hmem:∀ y∈L'++x::R',U y:=λy hy=>by
    rcases List.mem_append.1 hy with hy | hy
    ·exact u1 y (by rw [<- k2]; simp [hy])
    ·rcases qd.1 hy with rfl | hy
     ·exact u2 y (by simp)
     ·exact u1 y (by rw [<- k2]; simp [hy])
   obtain ⟨Z,m1,m2,m3⟩:=zbal h P S a b ha n (L'++x::R') Z2 (by simp only [qg] at hlen ⊢; simp only [qf] at hlen ⊢; omega) (by rw [hb,hlen]; omega) (by omega) hmem (λy hy=>u2 y (by simp [hy])) hsl (by omega) (by omega)
   refine ⟨Z, ?_,m2.trans ?_,m3⟩
   ·have wi:IntKind.i64.wrap (((P.length+Z1.length:Nat):Int)+1)=((P.length+(L'++x::R').length:Nat):Int):=by rw [hlen,zbM (by omega) (by omega)]; omega
    rw [wi, <- m1];congr 1;simp
   ·have hr:∀ r∈R',ltW x r:=λr hr=>(k3 r hr).resolve_left (by simp)
    have h1:PS U ([x]++R') (R'++[x]):=PS.swap h (λy hy=>by rw [qh.1 hy]; exact u2 x (by simp)) (λy hy=>hmem y (by simp [hy])) (λa ha b hb=>by rw [qh.1 ha]; exact .inl (hr b hb))
    have h2:=((PS.refl L').append h1).append (PS.refl Z2);rw [<- List.append_assoc L' R',k2] at h2
    simpa using h2
theorem z8R {U:Row->Prop} (h:OW U) (P Z S:yF) (hN:(P++Z++S).length<=1000000) (u:∀ y∈Z,U y) (h9:Z.length<=900) (a b:Int) (ha:a=(P.length:Int)) (hb:b=((P.length+Z.length:Nat):Int)):
  ∃ Z',zcg (P++Z++S) a b=(true,P++Z'++S)/\PS U Z' Z/\ze1 Z':=by
 simp only [qg] at hN;unfold zcg zmN;have wa:IntKind.i64.wrap (a+1)=((P.length+1:Nat):Int):=by rw [ha,zbM (by omega) (by omega)]; omega
 rw [wa];cases Z with
 | nil=>
  refine ⟨[], ?_,PS.refl _,.nil⟩;have e:decide (((P.length+1:Nat):Int)<b)=false:=by rw [decide_eq_false_iff_not,hb]; simp; omega
  have e1:∀ k,zdq (k+1) a b ((P.length+1:Nat):Int) (P++([]:yF)++S)=(true,P++([]:yF)++S):=λk=>by
   show (zdn a b (P.length+1:Nat) (P++([]:yF)++S)).ev _ _ _=_;unfold zdn;rw [Wy.ev_i,e]; rfl
  have e2:zdq (a.toNat +b.toNat +Int.toNat ((P.length+1:Nat):Int)+(P++([]:yF)++S).length+(1000:Nat)) a b ((P.length+1:Nat):Int) (P++([]:yF)++S)=(true,P++([]:yF)++S):=e1 (a.toNat +b.toNat +Int.toNat ((P.length+1:Nat):Int)+(P++([]:yF)++S).length+999);rw [Wy.fin_bn,e2]; rfl
 | cons x Z=>
  simp only [qf] at hN h9 hb;obtain ⟨Z',k1,k2,k3⟩:=zbal h P S a b ha (a.toNat +b.toNat +Int.toNat ((P.length+1:Nat):Int)+(P++x::Z++S).length+(1000:Nat)) [x] Z (by simp only [qg,List.length_singleton]; omega) (by rw [hb]; simp only [List.length_singleton]; omega) (by omega) (λy hy=>u y (by rw [qh.1 hy]; simp)) (λy hy=>u y (by simp [hy])) (by simp) (by simp) (by simp only [List.length_singleton]; omega)
  have ed:P++[x]++Z++S=P++x::Z++S:=by simp
  rw [ed,show ([x]:yF).length=1 from rfl] at k1
  rw [Wy.fin_bn,k1];exact ⟨Z',rfl,k2,k3⟩
section
variable (g:yF->Int->Int->Int->Bool×yF) {U:Row->Prop} (hU:CW U) (data:yF) (hN:data.length<=1000000) (lo hi:Nat) (hhi:hi<=data.length) (hd:∀ k,lo<=k->k<hi->U (data.getD k default))
include hU hN hhi hd
theorem z2y (a m b mid n_:Int) (p s0 r0:Nat) (hp1:p<=2000000) (hr:r0<=data.length) (hp:∀ c,s0<=c->c<r0->c<=p/\lo<=p - c/\p - c<hi/\lo<=c/\c<hi):∀ (n s r:Nat),r - s<n->s0<=s->s<=r->r<=r0->
  (s=s0\/¬ ltW (data.getD (p - (s - 1)) default) (data.getD (s - 1) default))->(r=r0\/ltW (data.getD (p - r) default) (data.getD r default))->
  ∃ t:Nat,zfb g n a m b mid n_ s r p data=(true,(a,m,b,mid,n_,(t:Int),data))/\s0<=t/\t<=r0/\(t=s0\/¬ ltW (data.getD (p - (t - 1)) default) (data.getD (t - 1) default))/\(t=r0\/ltW (data.getD (p - t) default) (data.getD t default))
 | 0,s,r,hn,_,_,_,_,_=>by omega
 | n+1,s,r,hn,h0,h1,h2,k1,k2=>by
  show ∃ t:Nat,(ziG g a m b mid n_ s r p data).ev (λx y=>zfb g n x.2.1 x.2.2.1 x.2.2.2.1 x.2.2.2.2.2.1 x.2.2.2.2.2.2.1 x.2.2.2.2.2.2.2.1 x.2.2.2.2.2.2.2.2.1 x.2.2.2.2.2.2.2.2.2.1 y.1) (λr=>(true,r)) (false,default)=_/\_
  unfold ziG;by_cases hlt:s<r
  ·have e:decide ((s:Int)<(r:Int))=true:=by rw [qe]; omega
   have hh:=zVh (i:=s) (j:=r) (by omega)
   obtain ⟨c,hc⟩:∃ c,c=(s+r) / 2:=⟨_,rfl⟩;rw [<- hc] at hh;obtain ⟨q1,q2,q3,q4,q5⟩:=hp c (by omega) (by omega)
   have wp:IntKind.i64.wrap ((p:Int) - (c:Int))=((p - c:Nat):Int):=by rw [zbM (by omega) (by omega)]; omega
   have g1:(decide ((0:Int)<=((p - c:Nat):Int))&&decide (((p - c:Nat):Int)<Int.ofNat data.length))=true:=by simp only [qc,qe,Int.ofNat_eq_natCast]; omega
   have g2:(decide ((0:Int)<=(c:Int))&&decide ((c:Int)<Int.ofNat data.length))=true:=by simp only [qc,qe,Int.ofNat_eq_natCast]; omega
   obtain ⟨z,ez⟩:=hU.ends (data.getD (p - c) default) (data.getD c default) (hd _ q2 q3) (hd _ q4 q5);have hz:ltW (data.getD (p - c) default) (data.getD c default)↔z<0:=by unfold ltW; rw [ez]
   simp only [Wy.ev_i,Wy.ev_k,Wy.ev_h,Wy.ev_bn,Wy.ev_d,e,hh,wp,g1,g2,Int.toNat_natCast,ez,cond_true];by_cases hzz:z<0
   ·rw [decide_eq_true hzz,Bool.not_true,cond_false];exact z2y a m b mid n_ p s0 r0 hp1 hr hp n s c (by omega) h0 (by omega) (by omega) k1 (.inr (hz.2 hzz))
   ·rw [decide_eq_false hzz,Bool.not_false,cond_true,show IntKind.i64.wrap ((c:Int)+1)=((c+1:Nat):Int) from zB (by omega)]
    exact z2y a m b mid n_ p s0 r0 hp1 hr hp n (c+1) r (by omega) (by omega) (by omega) h2 (.inr (by rw [Nat.add_sub_cancel]; exact λh=>hzz (hz.1 h))) k2
  ·have e:decide ((s:Int)<(r:Int))=false:=by rw [decide_eq_false_iff_not]; omega
   have:s=r:=by omega
   subst this;simp only [Wy.ev_i,Wy.ev_k,e,cond_false];exact ⟨s,rfl,h0,h2,k1,k2⟩
theorem z9S (a m0 b0:Nat) (hlo:lo<=a) (ha:a<hi) (hm0:lo<=m0) (hb:b0<=hi):∀ (n i j:Nat),j - i<n->m0<=i->i<=j->j<=b0->
  (i=m0\/ltW (data.getD (i - 1) default) (data.getD a default))->(j=b0\/¬ ltW (data.getD j default) (data.getD a default))->
  ∃ t:Nat,zi7 g n a i j data=(true,((a:Int),(t:Int),data))/\m0<=t/\t<=b0/\(t=m0\/ltW (data.getD (t - 1) default) (data.getD a default))/\(t=b0\/¬ ltW (data.getD t default) (data.getD a default))
 | 0,i,j,hn,_,_,_,_,_=>by omega
 | n+1,i,j,hn,h0,h1,h2,k1,k2=>by
  show ∃ t:Nat,(zja g a i j data).ev (λx y=>zi7 g n x.2.1 x.2.2.2.1 x.2.2.2.2.1 y.1) (λr=>(true,r)) (false,default)=_/\_
  unfold zja;by_cases hlt:i<j
  ·have e:decide ((i:Int)<(j:Int))=true:=by rw [qe]; omega
   have hh:=zVh (i:=i) (j:=j) (by omega)
   obtain ⟨c,hc⟩:∃ c,c=(i+j) / 2:=⟨_,rfl⟩;rw [<- hc] at hh;have g1:(decide ((0:Int)<=(c:Int))&&decide ((c:Int)<Int.ofNat data.length))=true:=by simp only [qc,qe,Int.ofNat_eq_natCast]; omega
   have g2:(decide ((0:Int)<=(a:Int))&&decide ((a:Int)<Int.ofNat data.length))=true:=by simp only [qc,qe,Int.ofNat_eq_natCast]; omega
   obtain ⟨z,ez⟩:=hU.ends (data.getD c default) (data.getD a default) (hd _ (by omega) (by omega)) (hd _ hlo ha)
   have hz:ltW (data.getD c default) (data.getD a default)↔z<0:=by unfold ltW; rw [ez]
   simp only [Wy.ev_i,Wy.ev_k,Wy.ev_h,Wy.ev_bn,Wy.ev_d,e,hh,g1,g2,Int.toNat_natCast,ez,cond_true];by_cases hzz:z<0
   ·rw [decide_eq_true hzz,cond_true,show IntKind.i64.wrap ((c:Int)+1)=((c+1:Nat):Int) from zB (by omega)]
    exact z9S a m0 b0 hlo ha hm0 hb n (c+1) j (by omega) (by omega) (by omega) h2 (.inr (by rw [Nat.add_sub_cancel]; exact hz.2 hzz)) k2
   ·rw [decide_eq_false hzz,cond_false];exact z9S a m0 b0 hlo ha hm0 hb n i c (by omega) h0 (by omega) (by omega) k1 (.inr λh=>hzz (hz.1 h))
  ·have e:decide ((i:Int)<(j:Int))=false:=by rw [decide_eq_false_iff_not]; omega
   have:i=j:=by omega
   subst this;simp only [Wy.ev_i,Wy.ev_k,e,cond_false];exact ⟨i,rfl,h0,h2,k1,k2⟩
theorem z6D (m m0 b0:Nat) (hlo:lo<=m) (ha:m<hi) (hm0:lo<=m0) (hb:b0<=hi):∀ (n i j:Nat),j - i<n->m0<=i->i<=j->j<=b0->
  (i=m0\/¬ ltW (data.getD m default) (data.getD (i - 1) default))->(j=b0\/ltW (data.getD m default) (data.getD j default))->
  ∃ t:Nat,zis g n m i j data=(true,((m:Int),(t:Int),data))/\m0<=t/\t<=b0/\(t=m0\/¬ ltW (data.getD m default) (data.getD (t - 1) default))/\(t=b0\/ltW (data.getD m default) (data.getD t default))
 | 0,i,j,hn,_,_,_,_,_=>by omega
 | n+1,i,j,hn,h0,h1,h2,k1,k2=>by
  show ∃ t:Nat,(ziL g m i j data).ev (λx y=>zis g n x.2.1 x.2.2.2.1 x.2.2.2.2.1 y.1) (λr=>(true,r)) (false,default)=_/\_
  unfold ziL;by_cases hlt:i<j
  ·have e:decide ((i:Int)<(j:Int))=true:=by rw [qe]; omega
   have hh:=zVh (i:=i) (j:=j) (by omega)
   obtain ⟨c,hc⟩:∃ c,c=(i+j) / 2:=⟨_,rfl⟩;rw [<- hc] at hh;have g1:(decide ((0:Int)<=(c:Int))&&decide ((c:Int)<Int.ofNat data.length))=true:=by simp only [qc,qe,Int.ofNat_eq_natCast]; omega
   have g2:(decide ((0:Int)<=(m:Int))&&decide ((m:Int)<Int.ofNat data.length))=true:=by simp only [qc,qe,Int.ofNat_eq_natCast]; omega
   obtain ⟨z,ez⟩:=hU.ends (data.getD m default) (data.getD c default) (hd _ hlo ha) (hd _ (by omega) (by omega))
   have hz:ltW (data.getD m default) (data.getD c default)↔z<0:=by unfold ltW; rw [ez]
   simp only [Wy.ev_i,Wy.ev_k,Wy.ev_h,Wy.ev_bn,Wy.ev_d,e,hh,g1,g2,Int.toNat_natCast,ez,cond_true];by_cases hzz:z<0
   ·rw [decide_eq_true hzz,Bool.not_true,cond_false];exact z6D m m0 b0 hlo ha hm0 hb n i c (by omega) h0 (by omega) (by omega) k1 (.inr (hz.2 hzz))
   ·rw [decide_eq_false hzz,Bool.not_false,cond_true,show IntKind.i64.wrap ((c:Int)+1)=((c+1:Nat):Int) from zB (by omega)]
    exact z6D m m0 b0 hlo ha hm0 hb n (c+1) j (by omega) (by omega) (by omega) h2 (.inr (by rw [Nat.add_sub_cancel]; exact λh=>hzz (hz.1 h))) k2
  ·have e:decide ((i:Int)<(j:Int))=false:=by rw [decide_eq_false_iff_not]; omega
   have:i=j:=by omega
   subst this;simp only [Wy.ev_i,Wy.ev_k,e,cond_false];exact ⟨i,rfl,h0,h2,k1,k2⟩
end
theorem zbcT (g:yF->Int->Int->Int->Bool×yF):∀ (n:Nat) (P W S:yF) (x:Row),(P++x::(W++S)).length<=1000000->W.length<n->
  zfr g n ((P.length+W.length+1:Nat):Int) (P.length:Int) (P++x::(W++S))=(true,P++W++x::S)
 | 0,P,W,S,x,_,h=>by omega
 | n+1,P,W,S,x,hN,hn=>by
  show (zjh g (P.length+W.length+1:Nat) P.length (P++x::(W++S))).ev (λx y=>zfr g n x.2.1 x.2.2.1 y.1) (λr=>(true,r)) (false,default)=_
  unfold zjh;simp only [qg,qf] at hN;have wi:IntKind.i64.wrap (((P.length+W.length+1:Nat):Int) - 1)=((P.length+W.length:Nat):Int):=by rw [zbM (by omega) (by omega)]; omega
  rw [wi];cases W with
  | nil=>
   have e:decide ((P.length:Int)<((P.length+([]:yF).length:Nat):Int))=false:=by rw [decide_eq_false_iff_not]; simp
   simp only [Wy.ev_i,Wy.ev_k,e,cond_false];simp
  | cons w W=>
   simp only [qf] at hN hn;have e:decide ((P.length:Int)<((P.length+(w::W).length:Nat):Int))=true:=by rw [qe]; simp; omega
   have wk:IntKind.i64.wrap ((P.length:Int)+1)=((P.length+1+([]:yF).length:Nat):Int):=by rw [zbM (by omega) (by omega)]; simp
   have ed:P++x::((w::W)++S)=P++x::([]++w::(W++S)):=rfl;have hlen:∀ u v:Row,(P++u::([]++v::(W++S))).length=P.length+1+1+W.length+S.length:=λu v=>by simp only [qg,qf,List.length_nil]; omega
   have g1:∀ u v:Row,(decide ((0:Int)<=((P.length+1+([]:yF).length:Nat):Int))&&decide (((P.length+1+([]:yF).length:Nat):Int)<Int.ofNat (P++u::([]++v::(W++S))).length))=true:=λu v=>by
    rw [hlen]; simp only [qc,qe,Int.ofNat_eq_natCast,List.length_nil]; omega
   have g2:∀ u v:Row,(decide ((0:Int)<=(P.length:Int))&&decide ((P.length:Int)<Int.ofNat (P++u::([]++v::(W++S))).length))=true:=λu v=>by
    rw [hlen]; simp only [qc,qe,Int.ofNat_eq_natCast]; omega
   have g3:∀ u v:Row,decide (P.length<(P++u::([]++v::(W++S))).length)=true:=λu v=>by rw [hlen,qe]; omega
   have g4:∀ u v:Row,decide (P.length+1+([]:yF).length<(P++u::([]++v::(W++S))).length)=true:=λu v=>by rw [hlen,qe,List.length_nil]; omega
   rw [e,ed,wk];simp only [Wy.ev_i,Wy.ev_k,Wy.ev_h,Wy.ev_bn,Wy.ev_d,Int.toNat_natCast,g1,g2,g3,g4,zVg,zOS,zVr,zNE,cond_true];have ih:=zbcT g n (P++[w]) W S x (by simp only [qg,qf,List.length_nil]; omega) (by omega)
   have e1:(P++[w])++x::(W++S)=P++w::([]++x::(W++S)):=by simp
   have e2:(((P++[w]).length+W.length+1:Nat):Int)=((P.length+(w::W).length+1:Nat):Int):=by simp; omega
   have e3:((P++[w]).length:Int)=((P.length+1+([]:yF).length:Nat):Int):=by simp
   rw [e1,e2,e3] at ih;rw [ih]; simp
theorem zbah (g:yF->Int->Int->Int->Bool×yF):∀ (n:Nat) (P W S:yF) (x:Row),(P++W++x::S).length<=1000000->W.length<n->
  zfd g n (P.length:Int) ((P.length+W.length:Nat):Int) (P++W++x::S)=(true,P++x::(W++S))
 | 0,P,W,S,x,_,h=>by omega
 | n+1,P,W,S,x,hN,hn=>by
  show (ziv g P.length (P.length+W.length:Nat) (P++W++x::S)).ev (λx y=>zfd g n x.2.1 x.2.2.1 y.1) (λr=>(true,r)) (false,default)=_
  unfold ziv;simp only [qg,qf] at hN;rcases List.eq_nil_or_concat W with rfl | ⟨W0,w,rfl⟩
  ·have e:decide (((P.length+([]:yF).length:Nat):Int)>(P.length:Int))=false:=by rw [decide_eq_false_iff_not]; simp
   simp only [Wy.ev_i,Wy.ev_k,e,cond_false];simp
  ·rw [List.concat_eq_append] at *;simp only [qg,List.length_singleton] at hN hn;have e:decide (((P.length+(W0++[w]).length:Nat):Int)>(P.length:Int))=true:=by rw [qe]; simp; omega
   have ed:P++(W0++[w])++x::S=(P++W0)++w::([]++x::S):=by simp
   have ej:((P.length+(W0++[w]).length:Nat):Int)=(((P++W0).length+1+([]:yF).length:Nat):Int):=by simp; omega
   have wj:IntKind.i64.wrap ((((P++W0).length+1+([]:yF).length:Nat):Int) - 1)=(((P++W0).length:Nat):Int):=by
    simp only [qg,List.length_nil];rw [zbM (by omega) (by omega)]; omega
   have hlen:∀ u v:Row,((P++W0)++u::([]++v::S)).length=P.length+W0.length+1+1+S.length:=λu v=>by simp only [qg,qf,List.length_nil]; omega
   have g1:∀ u v:Row,(decide ((0:Int)<=(((P++W0).length+1+([]:yF).length:Nat):Int))&&decide ((((P++W0).length+1+([]:yF).length:Nat):Int)<Int.ofNat ((P++W0)++u::([]++v::S)).length))=true:=λu v=>by
    rw [hlen]; simp only [qc,qe,Int.ofNat_eq_natCast,qg,List.length_nil]; omega
   have g2:∀ u v:Row,(decide ((0:Int)<=(((P++W0).length:Nat):Int))&&decide ((((P++W0).length:Nat):Int)<Int.ofNat ((P++W0)++u::([]++v::S)).length))=true:=λu v=>by
    rw [hlen]; simp only [qc,qe,Int.ofNat_eq_natCast,qg]; omega
   have g3:∀ u v:Row,decide ((P++W0).length+1+([]:yF).length<((P++W0)++u::([]++v::S)).length)=true:=λu v=>by
    rw [hlen,qe]; simp only [qg,List.length_nil]; omega
   have g4:∀ u v:Row,decide ((P++W0).length<((P++W0)++u::([]++v::S)).length)=true:=λu v=>by
    rw [hlen,qe]; simp only [qg]; omega
   rw [e,ed,ej,wj];simp only [Wy.ev_i,Wy.ev_k,Wy.ev_h,Wy.ev_bn,Wy.ev_d,Int.toNat_natCast,g1,g2,g3,g4,zVg,zOS,zVr,zNE,cond_true];have ih:=zbah g n P W0 (w::S) x (by simp only [qg,qf]; omega) (by omega)
   have e1:P++W0++x::(w::S)=(P++W0)++x::([]++w::S):=by simp
   have e3:((P.length+W0.length:Nat):Int)=(((P++W0).length:Nat):Int):=by simp
   rw [e1,e3] at ih;rw [ih]; simp
theorem zEC {l:yF} (h:ze1 l) {i j:Nat} (hi:i<j) (hj:j<l.length):¬ ltW (l.getD j default) (l.getD i default):=by
 have:=List.pairwise_iff_getElem.1 h i j (by omega) hj hi
 rw [List.getD_eq_getElem?_getD,List.getD_eq_getElem?_getD,List.getElem?_eq_getElem hj,List.getElem?_eq_getElem (by omega:i<l.length)]
 exact this
theorem z5X {U:Row->Prop} (h:OW U) {Y1 Y2:yF} {x:Row} (hx:U x) (hY:∀ y∈Y1++Y2,U y) (hs:ze1 (Y1++Y2)) (h1:∀ y∈Y1,¬ ltW x y) (h2:∀ y∈Y2,¬ ltW y x):ze1 (Y1++x::Y2):=by
 have hs':=List.pairwise_append.1 hs;refine List.pairwise_append.2 ⟨hs'.1,qi.2 ⟨h2,hs'.2.1⟩,λy hy z hz=> ?_⟩
 rcases qd.1 hz with rfl | hz
 ·exact h1 y hy
 ·exact hs'.2.2 y hy z hz
theorem zwE {l:yF} {k:Nat} {y:Row} (h:y∈l.take k):∃ i,i<k/\i<l.length/\y=l.getD i default:=by
 obtain ⟨i,hi,e⟩:=List.mem_iff_getElem.1 h;rw [List.length_take] at hi;refine ⟨i,by omega,by omega, ?_⟩
 rw [List.getElem_take] at e;rw [List.getD_eq_getElem?_getD,List.getElem?_eq_getElem (by omega:i<l.length), <- e]; rfl
theorem zwS {l:yF} {k:Nat} {y:Row} (h:y∈l.drop k):∃ i,k<=i/\i<l.length/\y=l.getD i default:=by
 obtain ⟨i,hi,e⟩:=List.mem_iff_getElem.1 h;rw [List.length_drop] at hi;refine ⟨k+i,by omega,by omega, ?_⟩
 rw [List.getElem_drop] at e;rw [List.getD_eq_getElem?_getD,List.getElem?_eq_getElem (by omega:k+i<l.length), <- e]; rfl
theorem z99 {U:Row->Prop} (h:OW U) {Y:yF} {x:Row} (hx:U x) (hY:∀ y∈Y,U y) (hs:ze1 Y) {t:Nat} (ht:t<=Y.length) (h1:t=0\/ltW (Y.getD (t - 1) default) x) (h2:t=Y.length\/¬ ltW (Y.getD t default) x):ze1 (Y.take t++x::Y.drop t):=by
 refine z5X h hx (by rw [List.take_append_drop]; exact hY) (by rw [List.take_append_drop]; exact hs) (λy hy=> ?_) λy hy=> ?_
 ·obtain ⟨i,i1,i2,rfl⟩:=zwE hy;rcases h1 with rfl | h1
  ·omega
  ·have hl:U (Y.getD (t - 1) default):=hY _ (zl (by omega))
   have hi:U (Y.getD i default):=hY _ (zl i2);have a1:=h.asym _ _ hl hx h1;by_cases e:i=t - 1
   ·rw [e]; exact a1
   ·exact h.ntr x _ _ hx hl hi a1 (zEC hs (by omega) (by omega))
 ·obtain ⟨i,i1,i2,rfl⟩:=zwS hy;rcases h2 with rfl | h2
  ·omega
  ·have hl:U (Y.getD t default):=hY _ (zl (by omega))
   have hi:U (Y.getD i default):=hY _ (zl i2);by_cases e:i=t
   ·rw [e]; exact h2
   ·exact h.ntr _ _ x hi hl hx (zEC hs (by omega) i2) h2
theorem z8w {U:Row->Prop} (h:OW U) {X:yF} {y:Row} (hy:U y) (hX:∀ x∈X,U x) (hs:ze1 X) {t:Nat} (ht:t<=X.length) (h1:t=0\/¬ ltW y (X.getD (t - 1) default)) (h2:t=X.length\/ltW y (X.getD t default)):ze1 (X.take t++y::X.drop t):=by
 refine z5X h hy (by rw [List.take_append_drop]; exact hX) (by rw [List.take_append_drop]; exact hs) (λx hx=> ?_) λx hx=> ?_
 ·obtain ⟨i,i1,i2,rfl⟩:=zwE hx;rcases h1 with rfl | h1
  ·omega
  ·have hl:U (X.getD (t - 1) default):=hX _ (zl (by omega))
   have hi:U (X.getD i default):=hX _ (zl i2);by_cases e:i=t - 1
   ·rw [e]; exact h1
   ·exact h.ntr y _ _ hy hl hi h1 (zEC hs (by omega) (by omega))
 ·obtain ⟨i,i1,i2,rfl⟩:=zwS hx;rcases h2 with rfl | h2
  ·omega
  ·have hl:U (X.getD t default):=hX _ (zl (by omega))
   have hi:U (X.getD i default):=hX _ (zl i2);have a1:=h.asym _ _ hy hl h2;by_cases e:i=t
   ·rw [e]; exact a1
   ·exact h.ntr _ _ y hi hl hy (zEC hs (by omega) i2) a1
theorem zbaR {U:Row->Prop} (h:OW U) {Y:yF} {x:Row} (hx:U x) (hY:∀ y∈Y,U y) (hs:ze1 Y) {t:Nat} (ht:t<=Y.length) (h1:t=0\/ltW (Y.getD (t - 1) default) x):∀ y∈Y.take t,ltW y x:=λy hy=>by
 obtain ⟨i,i1,i2,rfl⟩:=zwE hy;rcases h1 with rfl | h1
 ·omega
 ·refine Classical.byContradiction λhn=> ?_
  by_cases e:i=t - 1
  ·rw [e] at hn; exact hn h1
  ·exact h.ntr _ _ x (hY _ (zl (by omega))) (hY _ (zl i2)) hx (zEC hs (by omega) (by omega)) hn h1
theorem z9K {U:Row->Prop} (h:OW U) {X:yF} {y:Row} (hy:U y) (hX:∀ x∈X,U x) (hs:ze1 X) {t:Nat} (h2:t=X.length\/ltW y (X.getD t default)):∀ x∈X.drop t,ltW y x:=λx hx=>by
 obtain ⟨i,i1,i2,rfl⟩:=zwS hx;rcases h2 with rfl | h2
 ·omega
 ·refine Classical.byContradiction λhn=> ?_
  by_cases e:i=t
  ·rw [e] at hn; exact hn h2
  ·exact h.ntr y _ _ hy (hX _ (zl i2)) (hX _ (zl (by omega))) hn (zEC hs (by omega) i2) h2
section
variable (g:yF->Int->Int->Int->Bool×yF)
def sT2 (mid e b:Int) (D:yF):Wy0 (yF):=.i (decide (mid<e)) (.i (decide (e<b)) (.bn (g D mid e b) λr=>.k r) (.k D)) (.k D)
def sT1 (a st mid e b:Int) (D:yF):Wy0 (yF):=.i (decide (a<st)) (.i (decide (st<mid)) (.bn (g D a st mid) λr=>sT2 g mid e b r) (sT2 g mid e b D)) (sT2 g mid e b D)
def sT0 (a st mid e m b:Int) (D:yF):Wy0 (yF):=.i (decide (st<m)) (.i (decide (m<e)) (.bn (zdD D st m e) λr=>sT1 g a st mid e b r) (sT1 g a st mid e b D)) (sT1 g a st mid e b D)
def zU9 (U:Row->Prop) (n:Nat):Prop:=∀ (P X Y S:yF) (a m b:Int),(P++X++Y++S).length<=1000000->X.length+Y.length<=n->0<X.length->0<Y.length->(∀ y∈X++Y,U y)->ze1 X->ze1 Y->
 a=(P.length:Int)->m=((P.length+X.length:Nat):Int)->b=((P.length+X.length+Y.length:Nat):Int)->∃ Z,g (P++X++Y++S) a m b=(true,P++Z++S)/\PS U Z (X++Y)/\ze1 Z
variable {g} {U:Row->Prop} {n:Nat} (hg:zU9 g U n)
include hg
theorem zbb3 (P X Y S:yF) (mid e b:Int) (hN:(P++X++Y++S).length<=1000000) (hs:X.length+Y.length<=n) (u:∀ y∈X++Y,U y) (h1:ze1 X) (h2:ze1 Y)
  (ha:mid=(P.length:Int)) (hm:e=((P.length+X.length:Nat):Int)) (hb:b=((P.length+X.length+Y.length:Nat):Int)):
  ∃ Z,(sT2 g mid e b (P++X++Y++S)).fin default=(true,P++Z++S)/\PS U Z (X++Y)/\ze1 Z:=by
 unfold sT2;by_cases hX:0<X.length
 ·have e1:decide (mid<e)=true:=by rw [qe,ha,hm]; omega
  by_cases hY:0<Y.length
  ·have e2:decide (e<b)=true:=by rw [qe,hm,hb]; omega
   obtain ⟨Z,k1,k2,k3⟩:=hg P X Y S mid e b hN hs hX hY u h1 h2 ha hm hb;refine ⟨Z, ?_,k2,k3⟩;rw [Wy.fin_i,e1,cond_true,Wy.fin_i,e2,cond_true,Wy.fin_bn,k1,cond_true,Wy.fin_k]
  ·have e2:decide (e<b)=false:=by rw [decide_eq_false_iff_not,hm,hb]; omega
   have:Y=[]:=List.length_eq_zero_iff.1 (by omega)
   subst this;refine ⟨X, ?_,by rw [List.append_nil]; exact PS.refl _,h1⟩
   rw [Wy.fin_i,e1,cond_true,Wy.fin_i,e2,cond_false,Wy.fin_k]; simp
 ·have e1:decide (mid<e)=false:=by rw [decide_eq_false_iff_not,ha,hm]; omega
  have:X=[]:=List.length_eq_zero_iff.1 (by omega)
  subst this;refine ⟨Y, ?_,PS.refl _,h2⟩;rw [Wy.fin_i,e1,cond_false,Wy.fin_k]; simp
theorem zbcH (P X1 Y1 X2 Y2 S:yF) (a st mid e b:Int) (hN:(P++X1++Y1++X2++Y2++S).length<=1000000) (hs1:X1.length+Y1.length<=n) (hs2:X2.length+Y2.length<=n) (u:∀ y∈X1++Y1++X2++Y2,U y)
  (h1:ze1 X1) (h2:ze1 Y1) (h3:ze1 X2) (h4:ze1 Y2)
  (ha:a=(P.length:Int)) (hst:st=((P.length+X1.length:Nat):Int)) (hmid:mid=((P.length+X1.length+Y1.length:Nat):Int)) (he:e=((P.length+X1.length+Y1.length+X2.length:Nat):Int)) (hb:b=((P.length+X1.length+Y1.length+X2.length+Y2.length:Nat):Int)):
  ∃ Z1 Z2,(sT1 g a st mid e b (P++X1++Y1++X2++Y2++S)).fin default=(true,P++Z1++Z2++S)/\PS U Z1 (X1++Y1)/\PS U Z2 (X2++Y2)/\ze1 Z1/\ze1 Z2:=by
 have key:∀ Z1:yF,Z1.length=X1.length+Y1.length->∃ Z2,(sT2 g mid e b (P++Z1++X2++Y2++S)).fin default=(true,P++Z1++Z2++S)/\PS U Z2 (X2++Y2)/\ze1 Z2:=λZ1 hz=>by
  have:=zbb3 hg (P++Z1) X2 Y2 S mid e b (by simp only [qg] at hN ⊢; omega) hs2 (λy hy=>u y (by
   rcases List.mem_append.1 hy with hy | hy <;>simp [hy])) h3 h4 (by rw [hmid,qg,hz]; omega) (by rw [he,qg,hz]; omega) (by rw [hb,qg,hz]; omega)
  exact this
 unfold sT1;by_cases hX:0<X1.length
 ·have e1:decide (a<st)=true:=by rw [qe,ha,hst]; omega
  by_cases hY:0<Y1.length
  ·have e2:decide (st<mid)=true:=by rw [qe,hst,hmid]; omega
   obtain ⟨Z1,k1,k2,k3⟩:=hg P X1 Y1 (X2++Y2++S) a st mid (by simp only [qg] at hN ⊢; omega) hs1 hX hY (λy hy=>u y (by
    rcases List.mem_append.1 hy with hy | hy <;>simp [hy])) h1 h2 ha hst hmid
   have ed:P++X1++Y1++(X2++Y2++S)=P++X1++Y1++X2++Y2++S:=by simp only [List.append_assoc]
   rw [ed] at k1;obtain ⟨Z2,m1,m2,m3⟩:=key Z1 (by rw [k2.perm.length_eq,qg])
   refine ⟨Z1,Z2, ?_,k2,m2,k3,m3⟩;rw [Wy.fin_i,e1,cond_true,Wy.fin_i,e2,cond_true,Wy.fin_bn,k1,cond_true, <- m1];simp only [List.append_assoc]
  ·have e2:decide (st<mid)=false:=by rw [decide_eq_false_iff_not,hst,hmid]; omega
   have:Y1=[]:=List.length_eq_zero_iff.1 (by omega)
   subst this;obtain ⟨Z2,m1,m2,m3⟩:=key X1 (by simp)
   refine ⟨X1,Z2, ?_,by rw [List.append_nil]; exact PS.refl _,m2,h1,m3⟩
   rw [Wy.fin_i,e1,cond_true,Wy.fin_i,e2,cond_false,List.append_nil]; exact m1
 ·have e1:decide (a<st)=false:=by rw [decide_eq_false_iff_not,ha,hst]; omega
  have:X1=[]:=List.length_eq_zero_iff.1 (by omega)
  subst this;obtain ⟨Z2,m1,m2,m3⟩:=key Y1 (by simp)
  refine ⟨Y1,Z2, ?_,PS.refl _,m2,h2,m3⟩;rw [Wy.fin_i,e1,cond_false,List.append_nil]; exact m1
theorem zbcc (hU:OW U) (P X1 X2 Y1 Y2 S:yF) (a st mid e m b:Int) (hN:(P++X1++X2++Y1++Y2++S).length<=1000000) (hs1:X1.length+Y1.length<=n) (hs2:X2.length+Y2.length<=n) (u:∀ y∈X1++Y1++X2++Y2,U y)
  (h1:ze1 (X1++X2)) (h2:ze1 (Y1++Y2)) (c1:∀ x∈X1,∀ y∈Y2,¬ ltW y x) (c2:∀ y∈Y1,∀ x∈X2,ltW y x)
  (ha:a=(P.length:Int)) (hst:st=((P.length+X1.length:Nat):Int)) (hmid:mid=((P.length+X1.length+Y1.length:Nat):Int)) (hm:m=((P.length+X1.length+X2.length:Nat):Int)) (he:e=((P.length+X1.length+X2.length+Y1.length:Nat):Int)) (hb:b=((P.length+X1.length+X2.length+Y1.length+Y2.length:Nat):Int)):
  ∃ Z,(sT0 g a st mid e m b (P++X1++X2++Y1++Y2++S)).fin default=(true,P++Z++S)/\PS U Z ((X1++X2)++(Y1++Y2))/\ze1 Z:=by
 have s1:=List.pairwise_append.1 h1;have s2:=List.pairwise_append.1 h2;obtain ⟨Z1,Z2,k1,k2,k3,k4,k5⟩:=zbcH hg P X1 Y1 X2 Y2 S a st mid e b (by simp only [qg] at hN ⊢; omega) hs1 hs2 u s1.1 s2.1 s1.2.1 s2.2.1 ha hst hmid (by rw [he]; omega) (by rw [hb]; omega)
 refine ⟨Z1++Z2, ?_, ?_,List.pairwise_append.2 ⟨k4,k5,λx hx y hy=> ?_⟩⟩
 ·unfold sT0;have fin:(sT1 g a st mid e b (P++X1++Y1++X2++Y2++S)).fin default=(true,P++(Z1++Z2)++S):=by rw [k1]; simp only [List.append_assoc]
  by_cases hX:0<X2.length
  ·have e1:decide (st<m)=true:=by rw [qe,hst,hm]; omega
   by_cases hY:0<Y1.length
   ·have e2:decide (m<e)=true:=by rw [qe,hm,he]; omega
    have hr:=zbd4 (P++X1) X2 Y1 (Y2++S) (by simp only [qg] at hN ⊢; omega) hX hY st m e (by rw [hst,qg]) (by rw [hm,qg]) (by rw [he,qg])
    have ed:P++X1++X2++Y1++(Y2++S)=P++X1++X2++Y1++Y2++S:=by simp only [List.append_assoc]
    have ed2:P++X1++Y1++X2++(Y2++S)=P++X1++Y1++X2++Y2++S:=by simp only [List.append_assoc]
    rw [ed,ed2] at hr;rw [Wy.fin_i,e1,cond_true,Wy.fin_i,e2,cond_true,Wy.fin_bn,hr,cond_true,fin]
   ·have e2:decide (m<e)=false:=by rw [decide_eq_false_iff_not,hm,he]; omega
    have:Y1=[]:=List.length_eq_zero_iff.1 (by omega)
    subst this;rw [Wy.fin_i,e1,cond_true,Wy.fin_i,e2,cond_false];rw [List.append_nil] at fin ⊢;exact fin
  ·have e1:decide (st<m)=false:=by rw [decide_eq_false_iff_not,hst,hm]; omega
   have:X2=[]:=List.length_eq_zero_iff.1 (by omega)
   subst this;rw [Wy.fin_i,e1,cond_false];rw [List.append_nil] at fin ⊢;exact fin
 ·refine (k2.append k3).trans ?_;have:=((PS.refl (U:=U) X1).append (PS.swap hU (A:=Y1) (B:=X2) (λy hy=>u y (by simp [hy])) (λy hy=>u y (by simp [hy])) λy hy x hx=>.inl (c2 y hy x hx))).append (PS.refl Y2)
  simpa only [List.append_assoc] using this
 ·have hx':=k2.perm.mem_iff.1 hx;have hy':=k3.perm.mem_iff.1 hy;rcases List.mem_append.1 hx' with hx' | hx' <;>rcases List.mem_append.1 hy' with hy' | hy'
  ·exact s1.2.2 x hx' y hy'
  ·exact c1 x hx' y hy'
  ·exact hU.asym _ _ (u x (by simp [hx'])) (u y (by simp [hy'])) (c2 x hx' y hy')
  ·exact s2.2.2 x hx' y hy'
end
theorem zbcv {P X Y S:yF} {k:Nat} (h:k<X.length):(P++X++Y++S).getD (P.length+k) default=X.getD k default:=by
 rw [List.getD_eq_getElem?_getD,List.getD_eq_getElem?_getD,List.append_assoc,List.append_assoc,List.getElem?_append_right (by omega),Nat.add_sub_cancel_left,List.getElem?_append_left h]
theorem zbcn {P X Y S:yF} {k:Nat} (h:k<Y.length):(P++X++Y++S).getD (P.length+X.length+k) default=Y.getD k default:=by
 rw [List.append_assoc (P++X)];rw [List.getD_eq_getElem?_getD,List.getD_eq_getElem?_getD,List.getElem?_append_right (by rw [qg]; omega),List.length_append,Nat.add_sub_cancel_left,List.getElem?_append_left h]
section
variable {g:yF->Int->Int->Int->Bool×yF} {U:Row->Prop} {n:Nat} (hU:OW U) (hg:zU9 g U n)
include hU hg
theorem zbbT (P X Y S:yF) (i j mid:Nat) (hN:(P++X++Y++S).length<=1000000) (u:∀ y∈X++Y,U y) (h1:ze1 X) (h2:ze1 Y) (hi:i<=X.length) (hj:j<=Y.length) (hm:P.length+i+j=mid)
  (n1:i+j<=n) (n2:X.length - i+(Y.length - j)<=n)
  (b1:i=0\/j=Y.length\/¬ ltW (Y.getD j default) (X.getD (i - 1) default)) (b2:j=0\/i=X.length\/ltW (Y.getD (j - 1) default) (X.getD i default)) (a t e m b:Int)
  (ea:a=(P.length:Int)) (et:t=((P.length+i:Nat):Int)) (em:m=((P.length+X.length:Nat):Int)) (ee:e=((P.length+X.length+j:Nat):Int)) (eb:b=((P.length+X.length+Y.length:Nat):Int)):
  ∃ Z,(sT0 g a t mid e m b (P++X++Y++S)).fin default=(true,P++Z++S)/\PS U Z (X++Y)/\ze1 Z:=by
 have lx:(X.take i).length=i:=by rw [List.length_take]; omega
 have lx2:(X.drop i).length=X.length - i:=List.length_drop;have ly:(Y.take j).length=j:=by rw [List.length_take]; omega
 have ly2:(Y.drop j).length=Y.length - j:=List.length_drop;have ex:X.take i++X.drop i=X:=List.take_append_drop i X;have ey:Y.take j++Y.drop j=Y:=List.take_append_drop j Y;have uX:∀ k,k<X.length->U (X.getD k default):=λk hk=>u _ (List.mem_append_left _ (zl hk))
 have uY:∀ k,k<Y.length->U (Y.getD k default):=λk hk=>u _ (List.mem_append_right _ (zl hk))
 have ge:∀ {l:yF},ze1 l->∀ {p q:Nat},p<=q->q<l.length->U (l.getD p default)->¬ ltW (l.getD q default) (l.getD p default):=λ{l} hl {p q} hpq hq hu=>by
  rcases Nat.lt_or_eq_of_le hpq with h | h
  ·exact zEC hl h hq
  ·subst h; exact λh=>hU.asym _ _ hu hu h h
 have key:=zbcc hg hU P (X.take i) (X.drop i) (Y.take j) (Y.drop j) S a t mid e m b (by
   simp only [qg] at hN ⊢; omega) (by omega) (by omega) (λy hy=>u y (by
   simp only [List.mem_append] at hy ⊢;rcases hy with ((hy | hy) | hy) | hy
   ·exact .inl (List.mem_of_mem_take hy)
   ·exact .inr (List.mem_of_mem_take hy)
   ·exact .inl (List.mem_of_mem_drop hy)
   ·exact .inr (List.mem_of_mem_drop hy))) (by rw [ex]; exact h1) (by rw [ey]; exact h2) (λx hx y hy=>by
   obtain ⟨p,p1,p2,rfl⟩:=zwE hx;obtain ⟨q,q1,q2,rfl⟩:=zwS hy;rcases b1 with b1 | b1 | b1
   ·omega
   ·omega
   ·exact hU.ntr _ _ _ (uY q q2) (uX (i - 1) (by omega)) (uX p p2) (hU.ntr _ _ _ (uY q q2) (uY j (by omega)) (uX (i - 1) (by omega)) (ge h2 q1 q2 (uY j (by omega))) b1) (ge h1 (by omega) (by omega) (uX p p2))) (λy hy x hx=>by
   obtain ⟨q,q1,q2,rfl⟩:=zwE hy;obtain ⟨p,p1,p2,rfl⟩:=zwS hx;rcases b2 with b2 | b2 | b2
   ·omega
   ·omega
   ·refine Classical.byContradiction λhn=> ?_
    exact hU.ntr _ _ _ (uY (j - 1) (by omega)) (uX p p2) (uX i (by omega)) (hU.ntr _ _ _ (uY (j - 1) (by omega)) (uY q q2) (uX p p2) (ge h2 (by omega) (by omega) (uY q q2)) hn) (ge h1 p1 p2 (uX i (by omega))) b2) ea (by rw [et,lx]) (by rw [lx,ly]; omega) (by rw [em,lx,lx2]; omega) (by rw [ee,lx,lx2,ly]; omega) (by rw [eb,lx,lx2,ly,ly2]; omega)
 rw [ex,ey] at key
 have ed:P++X.take i++X.drop i++Y.take j++Y.drop j++S=P++X++Y++S:=by
  rw [List.append_assoc P,ex,List.append_assoc (P++X),ey]
 rwa [ed] at key
theorem z8O:zU9 (zeH g) U (n+1):=by
 intro P X Y S a m b hN hs hX hY u h1 h2 ha hm hb;have hCW:CW U:=hU.toCW;obtain ⟨D,hD⟩:∃ D,D=P++X++Y++S:=⟨_,rfl⟩;have hL:D.length=P.length+X.length+Y.length+S.length:=by rw [hD]; simp only [qg]
 have hN':=hN;simp only [qg] at hN';have uX:∀ k,k<X.length->U (X.getD k default):=λk hk=>u _ (List.mem_append_left _ (zl hk))
 have uY:∀ k,k<Y.length->U (Y.getD k default):=λk hk=>u _ (List.mem_append_right _ (zl hk))
 have gX:∀ {k:Nat},k<X.length->D.getD (P.length+k) default=X.getD k default:=λ{k} hk=>by rw [hD]; exact zbcv hk
 have gY:∀ {k:Nat},k<Y.length->D.getD (P.length+X.length+k) default=Y.getD k default:=λ{k} hk=>by rw [hD]; exact zbcn hk
 unfold zeH zpf;rw [<- hD];have w1:IntKind.i64.wrap (m - a)=(X.length:Int):=by rw [ha,hm,zbM (by omega) (by omega)]; omega
 have w2:IntKind.i64.wrap (b - m)=(Y.length:Int):=by rw [hb,hm,zbM (by omega) (by omega)]; omega
 rw [Wy.fin_i,w1]
 have hd:∀ k,P.length<=k->k<P.length+X.length+Y.length->U (D.getD k default):=λk k1 k2=>by
  by_cases hk:k<P.length+X.length
  ·have:=gX (k:=k - P.length) (by omega)
   rw [show P.length+(k - P.length)=k by omega] at this
   rw [this]; exact uX _ (by omega)
  ·have:=gY (k:=k - (P.length+X.length)) (by omega)
   rw [show P.length+X.length+(k - (P.length+X.length))=k by omega] at this
   rw [this]; exact uY _ (by omega)
 have hDN:D.length<=1000000:=by omega
 subst ha hm hb;by_cases x1:X.length=1
 ·have e1:((X.length:Int)==1)=true:=by rw [x1]; rfl
  rw [e1,cond_true,Wy.fin_bn];obtain ⟨x,rfl⟩:=List.length_eq_one_iff.1 x1
  obtain ⟨t,l1,l2,l3,l4,l5⟩:=z9S g hCW D hDN P.length (P.length+[x].length+Y.length) (by omega) hd P.length (P.length+[x].length) (P.length+[x].length+Y.length) (by omega) (by omega) (by omega) (by omega)
   (Int.toNat (P.length:Int)+Int.toNat ((P.length+[x].length:Nat):Int)+Int.toNat ((P.length+[x].length+Y.length:Nat):Int)+D.length+(1000:Nat)) (P.length+[x].length) (P.length+[x].length+Y.length) (by omega) (by omega) (by omega) (by omega) (.inl rfl) (.inl rfl)
  rw [l1,cond_true,Wy.fin_bn];have g0:D.getD P.length default=x:=gX (k:=0) (by omega)
  rw [g0] at l4 l5;obtain ⟨k,rfl⟩:∃ k,t=P.length+[x].length+k:=⟨t - (P.length+[x].length),by omega⟩
  have hk:k<=Y.length:=by omega
  have lk:(Y.take k).length=k:=by rw [List.length_take]; omega
  have eD:D=P++x::(Y.take k++(Y.drop k++S)):=by
   rw [hD, <- List.append_assoc (Y.take k),List.take_append_drop]; simp
  have k9:=zbcT g (Int.toNat ((P.length+[x].length+k:Nat):Int)+Int.toNat (P.length:Int)+D.length+(1000:Nat)) P (Y.take k) (Y.drop k++S) x (by rw [<- eD]; exact hDN) (by omega)
  rw [<- eD,lk,show P.length+k+1=P.length+[x].length+k by simp; omega] at k9
  have f1:k=0\/ltW (Y.getD (k - 1) default) x:=by
   rcases l4 with l4 | l4
   ·exact .inl (by omega)
   ·by_cases k0:k=0
    ·exact .inl k0
    ·have:=gY (k:=k - 1) (by omega)
     rw [show P.length+[x].length+k - 1=P.length+[x].length+(k - 1) by omega,this] at l4
     exact .inr l4
  have f2:k=Y.length\/¬ ltW (Y.getD k default) x:=by
   rcases l5 with l5 | l5
   ·exact .inl (by omega)
   ·by_cases k0:k=Y.length
    ·exact .inl k0
    ·rw [gY (k:=k) (by omega)] at l5
     exact .inr l5
  refine ⟨Y.take k++x::Y.drop k, ?_, ?_, ?_⟩
  ·have:zfr g (Int.toNat ((P.length+[x].length+k:Nat):Int)+Int.toNat (P.length:Int)+D.length+(1000:Nat)) ((P.length+[x].length+k:Nat):Int) (P.length:Int) D=_:=k9;simp only [this,cond_true,Wy.fin_k];simp
  ·have:=(PS.swap hU (A:=Y.take k) (B:=[x]) (λy hy=>u y (by simp [List.mem_of_mem_take hy])) (λy hy=>u y (by simp [qh.1 hy])) λy hy z hz=>by rw [qh.1 hz]; exact .inl (zbaR hU (u x (by simp)) (λy hy=>u y (by simp [hy])) h2 hk f1 y hy)).append (PS.refl (Y.drop k))
   rw [List.append_assoc [x],List.take_append_drop] at this
   simpa using this
  ·exact z99 hU (u x (by simp)) (λy hy=>u y (by simp [hy])) h2 hk f1 f2
 have e1:((X.length:Int)==1)=false:=by rw [beq_eq_false_iff_ne]; omega
 rw [e1,cond_false,Wy.fin_i,w2];by_cases y1:Y.length=1
 ·have e2:((Y.length:Int)==1)=true:=by rw [y1]; rfl
  rw [e2,cond_true,Wy.fin_bn];obtain ⟨y,rfl⟩:=List.length_eq_one_iff.1 y1
  obtain ⟨t,l1,l2,l3,l4,l5⟩:=z6D g hCW D hDN P.length (P.length+X.length+[y].length) (by omega) hd (P.length+X.length) P.length (P.length+X.length) (by omega) (by omega) (by omega) (by omega)
   (Int.toNat ((P.length+X.length:Nat):Int)+Int.toNat (P.length:Int)+Int.toNat ((P.length+X.length:Nat):Int)+D.length+(1000:Nat)) P.length (P.length+X.length) (by omega) (by omega) (by omega) (by omega) (.inl rfl) (.inl rfl)
  rw [l1,cond_true,Wy.fin_bn];have g0:D.getD (P.length+X.length) default=y:=gY (k:=0) (by omega)
  rw [g0] at l4 l5;obtain ⟨k,rfl⟩:∃ k,t=P.length+k:=⟨t - P.length,by omega⟩
  have hk:k<=X.length:=by omega
  have lk:(X.take k).length=k:=by rw [List.length_take]; omega
  have eD:D=(P++X.take k)++X.drop k++y::S:=by
   rw [hD,List.append_assoc P (X.take k),List.take_append_drop]; simp
  have k9:=zbah g (Int.toNat ((P.length+k:Nat):Int)+Int.toNat ((P.length+X.length:Nat):Int)+D.length+(1000:Nat)) (P++X.take k) (X.drop k) S y (by rw [<- eD]; exact hDN) (by rw [List.length_drop]; omega)
  rw [<- eD,qg,List.length_drop,lk,show P.length+k+(X.length - k)=P.length+X.length by omega] at k9
  have f1:k=0\/¬ ltW y (X.getD (k - 1) default):=by
   rcases l4 with l4 | l4
   ·exact .inl (by omega)
   ·by_cases k0:k=0
    ·exact .inl k0
    ·have:=gX (k:=k - 1) (by omega)
     rw [show P.length+k - 1=P.length+(k - 1) by omega,this] at l4
     exact .inr l4
  have f2:k=X.length\/ltW y (X.getD k default):=by
   rcases l5 with l5 | l5
   ·exact .inl (by omega)
   ·by_cases k0:k=X.length
    ·exact .inl k0
    ·rw [gX (k:=k) (by omega)] at l5
     exact .inr l5
  refine ⟨X.take k++y::X.drop k, ?_, ?_, ?_⟩
  ·have:zfd g (Int.toNat ((P.length+k:Nat):Int)+Int.toNat ((P.length+X.length:Nat):Int)+D.length+(1000:Nat)) ((P.length+k:Nat):Int) ((P.length+X.length:Nat):Int) D=_:=k9;simp only [this,cond_true,Wy.fin_k];simp
  ·have:=(PS.refl (U:=U) (X.take k)).append (PS.swap hU (A:=[y]) (B:=X.drop k) (λz hz=>u z (by simp [qh.1 hz])) (λz hz=>u z (by simp [List.mem_of_mem_drop hz])) λz hz w hw=>by rw [qh.1 hz]; exact .inl (z9K hU (u y (by simp)) (λx hx=>u x (by simp [hx])) h1 f2 w hw))
   rw [<- List.append_assoc, <- List.append_assoc,List.take_append_drop] at this
   simpa using this
  ·exact z8w hU (u y (by simp)) (λx hx=>u x (by simp [hx])) h1 hk f1 f2
 have e2:((Y.length:Int)==1)=false:=by rw [beq_eq_false_iff_ne]; omega
 rw [e2,cond_false,Wy.fin_i];have hh:=zVh (i:=P.length) (j:=P.length+X.length+Y.length) (by omega)
 obtain ⟨mid,hmid⟩:∃ c,c=(P.length+(P.length+X.length+Y.length)) / 2:=⟨_,rfl⟩;rw [<- hmid] at hh;have wn:IntKind.i64.wrap ((mid:Int)+((P.length+X.length:Nat):Int))=((mid+(P.length+X.length):Nat):Int):=by rw [zbM (by omega) (by omega)]; omega
 have wp:IntKind.i64.wrap (((mid+(P.length+X.length):Nat):Int) - 1)=((mid+(P.length+X.length) - 1:Nat):Int):=by rw [zbM (by omega) (by omega)]; omega
 simp only [hh,wn,wp]
 have fin:∀ t:Nat,P.length<=t->t<=P.length+X.length->t<=mid->mid - t<=Y.length->
   (t=P.length\/mid - t=Y.length\/¬ ltW (D.getD (mid+(P.length+X.length) - 1 - (t - 1)) default) (D.getD (t - 1) default))->(mid=t\/t=P.length+X.length\/ltW (D.getD (mid+(P.length+X.length) - 1 - t) default) (D.getD t default))->
   ∃ Z,(sT0 g (P.length:Int) (t:Int) (mid:Int) (IntKind.i64.wrap (((mid+(P.length+X.length):Nat):Int) - (t:Int))) ((P.length+X.length:Nat):Int) ((P.length+X.length+Y.length:Nat):Int) D).fin default=(true,P++Z++S)/\PS U Z (X++Y)/\ze1 Z:=λt t1 t2 t3 t4 b1 b2=>by
  rw [hD];refine zbbT hU hg P X Y S (t - P.length) (mid - t) mid hN u h1 h2 (by omega) t4 (by omega) (by omega) (by omega) ?_ ?_ _ _ _ _ _ rfl (by omega) rfl (by rw [zbM (by omega) (by omega)]; omega) rfl
  ·by_cases c1:t=P.length
   ·exact .inl (by omega)
   ·by_cases c2:mid - t=Y.length
    ·exact .inr (.inl c2)
    ·have b3:=(b1.resolve_left c1).resolve_left c2;have q1:=gY (k:=mid - t) (by omega)
     have q2:=gX (k:=t - P.length - 1) (by omega)
     rw [show P.length+X.length+(mid - t)=mid+(P.length+X.length) - 1 - (t - 1) by omega] at q1
     rw [show P.length+(t - P.length - 1)=t - 1 by omega] at q2
     rw [q1,q2] at b3;exact .inr (.inr b3)
  ·by_cases c1:mid=t
   ·exact .inl (by omega)
   ·by_cases c2:t=P.length+X.length
    ·exact .inr (.inl (by omega))
    ·have b3:=(b2.resolve_left c1).resolve_left c2;have q1:=gY (k:=mid - t - 1) (by omega)
     have q2:=gX (k:=t - P.length) (by omega)
     rw [show P.length+X.length+(mid - t - 1)=mid+(P.length+X.length) - 1 - t by omega] at q1
     rw [show P.length+(t - P.length)=t by omega] at q2
     rw [q1,q2] at b3;exact .inr (.inr b3)
 by_cases hgt:P.length+X.length>mid
 ·have e3:decide (((P.length+X.length:Nat):Int)>(mid:Int))=true:=by rw [qe]; omega
  have wb:IntKind.i64.wrap (((mid+(P.length+X.length):Nat):Int) - ((P.length+X.length+Y.length:Nat):Int))=((mid+(P.length+X.length) - (P.length+X.length+Y.length):Nat):Int):=by rw [zbM (by omega) (by omega)]; omega
  rw [e3,cond_true,wb,Wy.fin_bn]
  obtain ⟨t,l1,l2,l3,l4,l5⟩:=z2y g hCW D hDN P.length (P.length+X.length+Y.length) (by omega) hd (P.length:Int) ((P.length+X.length:Nat):Int) ((P.length+X.length+Y.length:Nat):Int) (mid:Int) ((mid+(P.length+X.length):Nat):Int) (mid+(P.length+X.length) - 1) (mid+(P.length+X.length) - (P.length+X.length+Y.length)) mid (by omega) (by omega) (λc c1 c2=>by omega)
   (Int.toNat (P.length:Int)+Int.toNat ((P.length+X.length:Nat):Int)+Int.toNat ((P.length+X.length+Y.length:Nat):Int)+Int.toNat (mid:Int)+Int.toNat ((mid+(P.length+X.length):Nat):Int)+Int.toNat ((mid+(P.length+X.length) - (P.length+X.length+Y.length):Nat):Int)+Int.toNat (mid:Int)+Int.toNat ((mid+(P.length+X.length) - 1:Nat):Int)+D.length+(1000:Nat)) (mid+(P.length+X.length) - (P.length+X.length+Y.length)) mid (by omega) (by omega) (by omega) (by omega) (.inl rfl) (.inl rfl)
  rw [l1,cond_true];exact fin t (by omega) (by omega) (by omega) (by omega) (by rcases l4 with l4 | l4; exact .inr (.inl (by omega)); exact .inr (.inr l4)) (by rcases l5 with l5 | l5; exact .inl (by omega); exact .inr (.inr l5))
 ·have e3:decide (((P.length+X.length:Nat):Int)>(mid:Int))=false:=by rw [decide_eq_false_iff_not]; omega
  rw [e3,cond_false,Wy.fin_bn]
  obtain ⟨t,l1,l2,l3,l4,l5⟩:=z2y g hCW D hDN P.length (P.length+X.length+Y.length) (by omega) hd (P.length:Int) ((P.length+X.length:Nat):Int) ((P.length+X.length+Y.length:Nat):Int) (mid:Int) ((mid+(P.length+X.length):Nat):Int) (mid+(P.length+X.length) - 1) P.length (P.length+X.length) (by omega) (by omega) (λc c1 c2=>by omega)
   (Int.toNat (P.length:Int)+Int.toNat ((P.length+X.length:Nat):Int)+Int.toNat ((P.length+X.length+Y.length:Nat):Int)+Int.toNat (mid:Int)+Int.toNat ((mid+(P.length+X.length):Nat):Int)+Int.toNat (P.length:Int)+Int.toNat ((P.length+X.length:Nat):Int)+Int.toNat ((mid+(P.length+X.length) - 1:Nat):Int)+D.length+(1000:Nat)) P.length (P.length+X.length) (by omega) (by omega) (by omega) (by omega) (.inl rfl) (.inl rfl)
  rw [l1,cond_true];exact fin t (by omega) (by omega) (by omega) (by omega) (by rcases l4 with l4 | l4; exact .inl (by omega); exact .inr (.inr l4)) (by rcases l5 with l5 | l5; exact .inr (.inl (by omega)); exact .inr (.inr l5))
end
theorem zbaj {U:Row->Prop} (hU:OW U):∀ n,zU9 (zeK n) U n
 | 0=>λP X Y S a m b _ h h1=>by omega
 | n+1=>by rw [zzD]; exact z8O hU (zbaj hU n)
end Go.Proofs.YtoknknbmfmddbaaGreatDoor
end
