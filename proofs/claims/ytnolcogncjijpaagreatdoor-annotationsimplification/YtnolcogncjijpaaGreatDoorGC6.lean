/- Texts of this claim, joined (the program, its functions in plain words, and what they compute). -/
import Derived.Test.YtnolcogncjijpaaGreatDoorGC5
import Derived.Test.YtnolcogncjijpaaGreatDoorGC1
import Derived.Test.YtnolcogncjijpaaGreatDoorGA2
import Derived.Test.YtnolcogncjijpaaGreatDoorGC2
import Derived.Test.YtnolcogncjijpaaGreatDoorGC3
set_option autoImplicit false
set_option linter.unusedVariables false
set_option linter.unusedSectionVars false
set_option linter.unusedSimpArgs false
set_option maxRecDepth 1000000
set_option maxHeartbeats 0
/- The reference's comparison of annotations is the order of trees. -/
noncomputable section
namespace Go.Proofs.YtnolcogncjijpaaGreatDoor
open Go Go.Ab
theorem zGx (s:ByteArray):∀ (n i:Nat) (r:List UInt8),s.size≤i+n→ByteArray.toList.loop s i r=r.reverse++s.data.toList.drop i
 | 0,i,r,h=>by
  rw [ByteArray.toList.loop,if_neg (by omega),List.drop_eq_nil_of_le (by rw [← Lib.size_eq]; omega),List.append_nil]
 | n+1,i,r,h=>by
  rw [ByteArray.toList.loop]
  by_cases hi:i<s.size
  ·have hi':i<s.data.toList.length:=by rw [← Lib.size_eq]; exact hi
   rw [if_pos hi,zGx s n (i+1) _ (by omega),List.drop_eq_getElem_cons hi',List.reverse_cons,List.append_assoc]
   congr 1
   have:s.get! i=s.data.toList[i]:=by
    have h':i<s.data.size:=hi
    show s.data[i]! =s.data.toList[i]
    rw [getElem!_pos s.data i h']; rfl
   rw [this]; rfl
  ·rw [if_neg hi,List.drop_eq_nil_of_le (by rw [← Lib.size_eq]; omega),List.append_nil]
theorem zBJ (s:ByteArray):s.toList=s.data.toList:=by
 rw [ByteArray.toList,zGx s s.size 0 [] (by omega)]; rfl
theorem zxJ {s t:ByteArray} (h:s.data.toList=t.data.toList):s=t:=by
 cases s; cases t
 congr 1
 exact Array.toList_inj.1 h
theorem zM2 (s t:ByteArray):(s.toList==t.toList)=decide (s.data.toList=t.data.toList):=by
 rw [zBJ,zBJ]
 cases hb:(s.data.toList==t.data.toList) with
 | true=>rw [decide_eq_true (beq_iff_eq.1 hb)]
 | false=>rw [decide_eq_false (fun h=>by rw [beq_iff_eq.2 h] at hb; cases hb)]
theorem zE3 (s t:ByteArray):(s.toList==t.toList)=decide (s=t):=by
 rw [zM2]
 by_cases h:s=t
 ·rw [decide_eq_true h,decide_eq_true (by rw [h])]
 ·rw [decide_eq_false h,decide_eq_false fun e=>h (zxJ e)]
theorem bne0 (z w:Int):(z != w)= !decide (z=w):=by by_cases h:z=w <;>simp [h]
theorem zEf:∀ a b:List UInt8,Op.bytesLess a b=decide (Lib.compareBytes a b<0)
 | [],[]=>by simp [Op.bytesLess,Lib.compareBytes]
 | _::_,[]=>by simp [Op.bytesLess,Lib.compareBytes]
 | [],_::_=>by simp [Op.bytesLess,Lib.compareBytes]
 | x::a,y::b=>by
  simp only [Op.bytesLess,Lib.compareBytes]
  by_cases p:x<y
  ·simp [p]
  ·by_cases q:y<x
   ·have hne:¬ x=y:=fun e=>by subst e; exact p q
    simp [p,q,hne]
   ·have he:x=y:=UInt8.toNat_inj.1 (by rw [UInt8.lt_iff_toNat_lt] at p q; omega)
    subst he
    simp [p,zEf a b]
theorem zAU (a b:Value):zp0 a b=(true,cmpT (trV a) (trV b)):=by
 unfold zp0 zBP zzv zEO
 rw [zE3,zBJ,zBJ,zEf,zMk]
 simp only [trV,cmpT,cmpL,cmpI]
 simp only [Wy.fin_i,Wy.fin_bn,Wy.fin_k,cond_true,bne0]
 by_cases h1:a.Kind=b.Kind
 ·by_cases h2:a.Int=b.Int
  ·by_cases h3:a.Text=b.Text
   ·simp [h1,h2,h3,zI4]
   ·have h4:cmpT (trB a.Text) (trB b.Text)≠0:=fun e=>by
     have:=zym _ _ (TT.l.inj (zwu _ _ e))
     exact h3 (zxJ this)
    have h5:=zKW (trB a.Text) (trB b.Text)
    simp only [trB,cmpT] at h4 h5
    simp only [trB,cmpT]
    rcases h5 with h5 | h5 | h5
    ·simp [h1,h2,h3,h5]
    ·exact absurd h5 h4
    ·simp [h1,h2,h3,h5]
  ·by_cases h3:a.Int<b.Int
   ·simp [h1,h2,h3]
   ·simp [h1,h2,h3,show b.Int<a.Int by omega]
 ·by_cases h3:a.Kind<b.Kind
  ·simp [h1,h3]
  ·simp [h1,h3,show b.Kind<a.Kind by omega]
theorem znG (x y:Int):zcQ x y=(true,cmpI x y):=by
 unfold zcQ zCD cmpI
 by_cases h1:x<y
 ·simp [h1,Wy.fin_i,Wy.fin_k]
 ·by_cases h2:y<x <;>simp [h1,h2,Wy.fin_i,Wy.fin_k]
theorem zEJ (x y:RowID):ztS x y=(true,if cmpI x.Table y.Table=0 then cmpI x.Seq y.Seq else cmpI x.Table y.Table):=by
 unfold ztS zxq
 simp only [znG,Wy.fin_i,Wy.fin_bn,Wy.fin_k,cond_true,bne0]
 by_cases h:cmpI x.Table y.Table=0
 ·simp [h]
 ·simp [h]
section
variable {α:Type} [Inhabited α]
def zJU (p q:α→α→Bool×Int) (a:List α) (b:List α) (i:Int):Wy (List α×List α×Int×Unit) (Unit) (Int⊕(List α×List α)):=.i (decide (i<Int.ofNat a.length)) (.i (decide (i<Int.ofNat b.length)) (.i (decide ((0:Int)≤i)&&decide (i<Int.ofNat a.length)) (.i (decide ((0:Int)≤i)&&decide (i<Int.ofNat b.length)) (.bn (p (a.getD i.toNat default) (b.getD i.toNat default)) fun r1=>.i (r1 != (0:Int)) (.k (.inl (r1))) (.i (decide ((0:Int)≤i)&&decide (i<Int.ofNat a.length)) (.i (decide ((0:Int)≤i)&&decide (i<Int.ofNat b.length)) (.bn (q (a.getD i.toNat default) (b.getD i.toNat default)) fun r0=>.i (r0 != (0:Int)) (.k (.inl (r0))) (.h (a,b,(IntKind.i64.wrap (i+(1:Int))),()) ())) .d) .d)) .d) .d) (.k (.inr (a,b)))) (.k (.inr (a,b)))
def zMI (p q:α→α→Bool×Int) (x:List α×List α×Int×Unit) (y:Unit):Wy (List α×List α×Int×Unit) (Unit) (Int⊕(List α×List α)):=zJU p q x.1 x.2.1 x.2.2.1
def zNp (p q:α→α→Bool×Int) (n:Nat) (a:List α) (b:List α) (i:Int):Bool×(Int⊕(List α×List α)):=zN (zMI p q) (.inl default) n (a,b,i,()) ()
def RG (p q:α→α→Bool×Int) (a b:List α):Bool×Int:=(.bn (zNp p q (a.length+b.length+Int.toNat (0:Int)+(1:Nat)) a b (0:Int)) fun r5=>.i (isL r5) (.k (getL r5)) (.bn (zcQ (Int.ofNat (getR r5).fst.length) (Int.ofNat (getR r5).snd.length)) fun r4=>.k r4):Wy0 Int).fin default
theorem zMd (p q:α→α→Bool×Int) (c1 c2:α→α→Int) (a b:List α) (ha:a.length≤1000000) (hp:∀ x∈a,∀ y∈b,p x y=(true,c1 x y)) (hq:∀ x∈a,∀ y∈b,q x y=(true,c2 x y)):∀ (n i:Nat),a.length<i+n→i≤a.length→i≤b.length→
  ∃ r,zNp p q n a b i=(true,r)∧((r=.inl (lexG (fun x y=>if c1 x y=0 then c2 x y else c1 x y) (a.drop i) (b.drop i)))∨(r=.inr (a,b)∧lexG (fun x y=>if c1 x y=0 then c2 x y else c1 x y) (a.drop i) (b.drop i)=cmpI a.length b.length))
 | 0,i,h,h2,h3=>by omega
 | n+1,i,h,h2,h3=>by
  show ∃ r,(zJU p q a b i).ev (fun x y=>zNp p q n x.1 x.2.1 x.2.2.1) (fun r=>(true,r)) (false,.inl default)=(true,r)∧_
  unfold zJU
  by_cases hi:i<a.length
  ·by_cases hi':i<b.length
   ·simp only [Wy.ev_i,Wy.ev_k,Wy.ev_h,Wy.ev_bn,Wy.ev_d,tT,hi,hi',hp _ (zH hi) _ (zH hi'),hq _ (zH hi) _ (zH hi')]
    rw [zbF hi,zbF hi',zbb (by omega)]
    simp only [lexG]
    generalize c1 (a.getD i default) (b.getD i default)=z1
    generalize c2 (a.getD i default) (b.getD i default)=z2
    by_cases hx:z1=0
    ·have e:(z1 != 0)=false:=by simp [hx]
     by_cases hx2:z2=0
     ·have e2:(z2 != 0)=false:=by simp [hx2]
      simp only [e,e2,cond_false,hx,hx2,if_true]
      exact zMd p q c1 c2 a b ha hp hq n (i+1) (by omega) (by omega) (by omega)
     ·have e2:(z2 != 0)=true:=by simp [hx2]
      simp only [e,e2,cond_false,cond_true,hx,hx2,if_true,if_false]
      exact ⟨_,rfl,.inl rfl⟩
    ·have e:(z1 != 0)=true:=by simp [hx]
     simp only [e,cond_true,hx,if_false]
     exact ⟨_,rfl,.inl rfl⟩
   ·simp only [Wy.ev_i,Wy.ev_k,Wy.ev_h,Wy.ev_bn,Wy.ev_d,tT,hi,hi']
    refine ⟨_,rfl,.inr ⟨rfl, ?_⟩⟩
    rw [zbF hi,zeR hi']
    unfold cmpI; rw [if_neg (by omega),if_pos (by omega)]; rfl
  ·simp only [Wy.ev_i,Wy.ev_k,Wy.ev_h,Wy.ev_bn,Wy.ev_d,tT,hi]
   refine ⟨_,rfl,.inr ⟨rfl, ?_⟩⟩
   rw [zeR hi]
   by_cases hi':i<b.length
   ·rw [zbF hi']; unfold cmpI; rw [if_pos (by omega)]; rfl
   ·rw [zeR hi']; unfold cmpI; rw [if_neg (by omega),if_neg (by omega)]; rfl
theorem zRc (p q:α→α→Bool×Int) (c1 c2:α→α→Int) (a b:List α) (ha:a.length≤1000000) (hp:∀ x∈a,∀ y∈b,p x y=(true,c1 x y)) (hq:∀ x∈a,∀ y∈b,q x y=(true,c2 x y)):RG p q a b=(true,lexG (fun x y=>if c1 x y=0 then c2 x y else c1 x y) a b):=by
 unfold RG
 obtain ⟨r,h1,h2⟩:=zMd p q c1 c2 a b ha hp hq (a.length+b.length+Int.toNat 0+1) 0 (by simp; omega) (by omega) (by omega)
 rw [show ((0:Nat):Int)=(0:Int) from rfl] at h1
 rw [Wy.fin_bn,h1]
 simp only [List.drop_zero] at h2
 rcases h2 with rfl | ⟨rfl,h2⟩
 ·rfl
 ·rw [h2]
  simp only [Wy.fin_i,Wy.fin_k,Wy.fin_bn,znG,tT,isL,getR]
end
theorem zIi {α:Type} [Inhabited α] (e:α→TT) (p q:α→α→Bool×Int) (c1 c2:α→α→Int) (a b:List α) (ha:a.length≤1000000) (hp:∀ x∈a,∀ y∈b,p x y=(true,c1 x y)) (hq:∀ x∈a,∀ y∈b,q x y=(true,c2 x y))
  (hc:∀ x y,(if c1 x y=0 then c2 x y else c1 x y)=cmpT (e x) (e y)):RG p q a b=(true,cmpL (a.map e) (b.map e)):=by
 rw [zRc p q c1 c2 a b ha hp hq,zBQ e a b fun x _ y _=>hc x y]
theorem zPf (g):zvG g=RG (fun x y=>g x.Factors y.Factors) (fun x y=>zcQ x.Coeff y.Coeff):=rfl
theorem zMM (g):zkj g=RG (fun x y=>g x.Atom y.Atom) (fun x y=>zcQ x.Exp y.Exp):=by
 have h:zl2 g=zMI (fun x y=>g x.Atom y.Atom) (fun x y=>zcQ x.Exp y.Exp):=by
  funext x y
  unfold zl2 zqL zMI zJU
  rw [Atom.eta,Atom.eta]
 funext a b
 unfold zkj zrs zqS
 rw [h]; rfl
theorem zOp (g):zpk g=RG (fun x y=>zp0 x.Value y.Value) (fun x y=>g x.Ann y.Ann):=rfl
theorem zJj (gI) (g:List Term→List Term→Bool×Int) (a b:Atom) (ha:a.Args.length≤1000000) (hg:∀ x∈a.Args,∀ y∈b.Args,g x y=(true,cmpL (zcG x) (zcG y))):∀ (n i:Nat),a.Args.length<i+n→i≤a.Args.length→i≤b.Args.length→
  ∃ r,zn0 gI g n i a b=(true,r)∧((r=.inl (lexG (fun x y=>cmpL (zcG x) (zcG y)) (a.Args.drop i) (b.Args.drop i))∧lexG (fun x y=>cmpL (zcG x) (zcG y)) (a.Args.drop i) (b.Args.drop i)≠0)∨(r=.inr (a,b)∧lexG (fun x y=>cmpL (zcG x) (zcG y)) (a.Args.drop i) (b.Args.drop i)=cmpI a.Args.length b.Args.length))
 | 0,i,h,h2,h3=>by omega
 | n+1,i,h,h2,h3=>by
  show ∃ r,(znY gI g i a b).ev (fun x y=>zn0 gI g n x.2.2.1 y.1 y.2.1) (fun r=>(true,r)) (false,.inl default)=(true,r)∧_
  unfold znY
  by_cases hi:i<a.Args.length
  ·by_cases hi':i<b.Args.length
   ·simp only [Wy.ev_i,Wy.ev_k,Wy.ev_h,Wy.ev_bn,Wy.ev_d,tT,hi,hi',hg _ (zH hi) _ (zH hi')]
    rw [zbF hi,zbF hi',zbb (by omega)]
    simp only [lexG]
    generalize cmpL (zcG (a.Args.getD i default)) (zcG (b.Args.getD i default))=z1
    by_cases hx:z1=0
    ·have e:(z1 != 0)=false:=by simp [hx]
     simp only [e,cond_false,hx,if_true]
     exact zJj gI g a b ha hg n (i+1) (by omega) (by omega) (by omega)
    ·have e:(z1 != 0)=true:=by simp [hx]
     simp only [e,cond_true,hx,if_false]
     exact ⟨_,rfl,.inl ⟨rfl,hx⟩⟩
   ·simp only [Wy.ev_i,Wy.ev_k,Wy.ev_h,Wy.ev_bn,Wy.ev_d,tT,hi,hi']
    refine ⟨_,rfl,.inr ⟨rfl, ?_⟩⟩
    rw [zbF hi,zeR hi']
    unfold cmpI; rw [if_neg (by omega),if_pos (by omega)]; rfl
  ·simp only [Wy.ev_i,Wy.ev_k,Wy.ev_h,Wy.ev_bn,Wy.ev_d,tT,hi]
   refine ⟨_,rfl,.inr ⟨rfl, ?_⟩⟩
   rw [zeR hi]
   by_cases hi':i<b.Args.length
   ·rw [zbF hi']; unfold cmpI; rw [if_pos (by omega)]; rfl
   ·rw [zeR hi']; unfold cmpI; rw [if_neg (by omega),if_neg (by omega)]; rfl
theorem zPU (gI) (g:List Term→List Term→Bool×Int) (x y:Atom) (ha:x.Args.length≤1000000) (hg:∀ a∈x.Args,∀ b∈y.Args,g a b=(true,cmpL (zcG a) (zcG b)))
  (hI:gI x.Items y.Items=(true,cmpL (zf5 x.Items) (zf5 y.Items))):zmX gI g x y=(true,cmpT (zds x) (zds y)):=by
 unfold zmX zuA
 rw [Atom.eta,Atom.eta]
 obtain ⟨r,h1,h2⟩:=zJj gI g x y ha hg (Int.toNat 0+1+x.Args.length+x.Items.length+y.Args.length+y.Items.length) 0 (by omega) (by omega) (by omega)
 rw [show ((0:Nat):Int)=(0:Int) from rfl] at h1
 simp only [List.drop_zero] at h2
 rw [zBQ (fun a=>TT.l (zcG a)) x.Args y.Args (fun a _ b _=>by simp only [cmpT]), ← zu1, ← zu1] at h2
 simp only [znG,zEJ,Wy.fin_bn,Wy.fin_i,Wy.fin_k,cond_true,h1]
 obtain ⟨k,r0,a,f,i,o,v⟩:=x; obtain ⟨k',r',a',f',i',o',v'⟩:=y
 simp only [zds,cmpT,cmpL,bne0] at *
 by_cases e1:cmpI k k'=0
 rotate_left
 ·simp [e1]
 by_cases e2:cmpI r0.Table r'.Table=0
 rotate_left
 ·simp [e1,e2]
 by_cases e3:cmpI r0.Seq r'.Seq=0
 rotate_left
 ·simp [e1,e2,e3]
 rcases h2 with ⟨rfl,h2⟩ | ⟨rfl,h2⟩
 ·simp [e1,e2,e3,h2,isL,getL]
 simp only [e1,e2,e3,h2,isL,getR,tT,hI,if_true]
 by_cases e4:cmpI (a.length:Int) (a'.length:Int)=0
 rotate_left
 ·simp [e4]
 by_cases e5:cmpI f f'=0
 rotate_left
 ·simp [e4,e5]
 by_cases e6:cmpL (zf5 i) (zf5 i')=0
 rotate_left
 ·simp [e4,e5,e6]
 by_cases e7:cmpI o o'=0
 rotate_left
 ·simp [e4,e5,e6,e7]
 simp [e4,e5,e6,e7,zAU]
theorem zzX:∀ n,
  (∀ d a b,zy d a→10*d≤n→znx n a b=(true,cmpL (zcG a) (zcG b)))∧
  (∀ d l l',zfm (zy d) l→10*d+10≤n+1→zkg n l l'=(true,cmpL (zbo l) (zbo l')))∧
  (∀ d x y,zc8 (zy d) x→10*d+10≤n+2→zmY n x y=(true,cmpT (zds x) (zds y)))∧
  (∀ d a b,a.length≤1000000→(∀ x∈a,zy d x.Ann)→10*d+10≤n+3→zl8 n a b=(true,cmpL (zf5 a) (zf5 b)))
 | 0=>by
  refine ⟨?_, ?_, ?_, ?_⟩
  ·intro d a b h hd; have:d=0:=by omega
   subst this; exact h.elim
  all_goals (intros; omega)
 | n+1=>by
  obtain ⟨h1,h2,h3,h4⟩:=zzX n
  refine ⟨?_, ?_, ?_, ?_⟩
  ·intro d a b h hd
   cases d with
   | zero=>exact h.elim
   | succ d=>
    rw [zES,zPf,zxu,zxu]
    exact zIi zrL _ _ (fun x y=>cmpL (zbo x.Factors) (zbo y.Factors)) (fun x y=>cmpI x.Coeff y.Coeff) a b h.1 (fun x hx y hy=>h2 d _ _ (h.2 x hx) (by omega)) (fun x _ y _=>znG _ _) fun x y=>by
     obtain ⟨c,l⟩:=x; obtain ⟨c',l'⟩:=y
     simp only [zrL,cmpT,cmpL]
     by_cases e:cmpI c c'=0 <;>simp [e]
  ·intro d l l' h hd
   rw [zzw,zMM,zpP,zpP]
   exact zIi zmW _ _ (fun x y=>cmpT (zds x.Atom) (zds y.Atom)) (fun x y=>cmpI x.Exp y.Exp) l l' h.1 (fun x hx y hy=>h3 d _ _ (h.2 x hx) (by omega)) (fun x _ y _=>znG _ _) fun x y=>by
    obtain ⟨c,l⟩:=x; obtain ⟨c',l'⟩:=y
    simp only [zmW,cmpT,cmpL]
    by_cases e:cmpI l l'=0 <;>simp [e]
  ·intro d x y h hd
   rw [zCf]
   exact zPU _ _ x y h.1.1 (fun a ha b _=>h1 d a b (h.2.1 a ha) (by omega)) (h4 d _ _ h.1.2.1 (fun w hw=>(h.2.2 w hw).2) (by omega))
  ·intro d a b h0 h hd
   rw [zBh,zOp,zn1,zn1]
   exact zIi ze6 _ _ (fun x y=>cmpT (trV x.Value) (trV y.Value)) (fun x y=>cmpL (zcG x.Ann) (zcG y.Ann)) a b h0 (fun x _ y _=>zAU _ _) (fun x hx y _=>h1 d _ _ (h x hx) (by omega)) fun x y=>by
    obtain ⟨c,l⟩:=x; obtain ⟨c',l'⟩:=y
    simp only [ze6,cmpT,cmpL]
    by_cases e:cmpL (zcG l) (zcG l')=0 <;>simp [e]
theorem zGS {d:Nat} {a:List Term} (h:zy d a) (hd:d≤100) (b:List Term):zEm a b=(true,cmpL (zcG a) (zcG b)):=(zzX 1000).1 d a b h (by omega)
theorem znb {d:Nat} {l:List Factor} (h:zfm (zy d) l) (hd:d≤99) (l':List Factor):zlY l l'=(true,cmpL (zbo l) (zbo l')):=(zzX 1000).2.1 d l l' h (by omega)
theorem zpr {d:Nat} {x:Atom} (h:zc8 (zy d) x) (hd:d≤99) (y:Atom):zly x y=(true,cmpT (zds x) (zds y)):=(zzX 1000).2.2.1 d x y h (by omega)
theorem zCU {d:Nat} {a:List Weighted} (h0:a.length≤1000000) (h:∀ x∈a,zy d x.Ann) (hd:d≤99) (b:List Weighted):zx1 a b=(true,cmpL (zf5 a) (zf5 b)):=(zzX 1000).2.2.2 d a b h0 h (by omega)
theorem zyN {d:Nat} {a:List Term} (h:zy d a) (hd:d≤100) (b:List Term):zr7 a b=(true,decide (a=b)):=by
 unfold zr7 zFM
 rw [Wy.fin_bn,zGS h hd]
 simp only [cond_true,Wy.fin_k]
 congr 1
 by_cases e:a=b
 ·subst e; rw [zE2]; simp
 ·have:cmpL (zcG a) (zcG b)≠0:=fun h=>e (zx9 _ _ (zzN _ _ h))
  simp [e,this]
abbrev zyo:=List Term×Int×Int×Unit
abbrev ttTref05Fits1:=Bool⊕(List Term×Int)
abbrev zyD:=List Term×Int×Unit
def zpU (a:List Term) (i:Int) (k:Int):Wy zyo (Unit) ttTref05Fits1:=.i (decide (0≤i)&&decide (i<Int.ofNat a.length)) (.i (decide (k<Int.ofNat (a.getD i.toNat default).Factors.length)) (.i (decide (0≤i)&&decide (i<Int.ofNat a.length)) (.i (decide (0≤k)&&decide (k<Int.ofNat (a.getD i.toNat default).Factors.length)) (.i (decide (((a.getD i.toNat default).Factors.getD k.toNat default).Exp>64)) (.k (.inl false)) (.i (decide (0≤i)&&decide (i<Int.ofNat a.length)) (.i (decide (0≤k)&&decide (k<Int.ofNat (a.getD i.toNat default).Factors.length)) (.i (decide (Int.ofNat ((a.getD i.toNat default).Factors.getD k.toNat default).Atom.Items.length>1024)) (.k (.inl false)) (.h (a,i,(IntKind.i64.wrap (k+1)),()) ())) .d) .d)) .d) .d) (.k (.inr (a,i)))) .d
def zD4 (x:zyo) (y:Unit):Wy zyo (Unit) ttTref05Fits1:=zpU x.1 x.2.1 x.2.2.1
def zD9 (n:Nat) (a:List Term) (i:Int) (k:Int):Bool×ttTref05Fits1:=zN (zD4) (.inl default) n (a,i,k,()) ()
def zp1 (a:List Term) (i:Int):Wy zyD (Unit) (Bool⊕Unit):=.i (decide (i<Int.ofNat a.length)) (.i (decide (0≤i)&&decide (i<Int.ofNat a.length)) (.i (decide (Int.ofNat (a.getD i.toNat default).Factors.length>64)) (.k (.inl false)) (.bn (zD9 ((a.length+i.toNat +Int.toNat 0+1)+szTs a) a i 0) fun r0=>.i (isL r0) (.k (.inl (getL r0))) (.h ((getR r0).1,(IntKind.i64.wrap ((getR r0).2+1)),()) ()))) .d) (.k (.inr ()))
def zEo (x:zyD) (y:Unit):Wy zyD (Unit) (Bool⊕Unit):=zp1 x.1 x.2.1
def zD6 (n:Nat) (a:List Term) (i:Int):Bool×(Bool⊕Unit):=zN (zEo) (.inl default) n (a,i,()) ()
def zEZ (a:List Term):Wy0 (Bool):=.i (decide (Int.ofNat a.length>512)) (.k false) (.bn (zEb a) fun r4=>.i (decide (r4>8)) (.k false) (.bn (zHe a) fun r3=>.i (decide (r3>4096)) (.k false) (.bn (zD6 ((a.length+Int.toNat 0+1)+szTs a) a 0) fun r2=>.i (isL r2) (.k (getL r2)) (.k true))))
def zzE (a:List Term):Bool×Bool:=(zEZ a).fin default
def zEi (v:Value):Wy0 (Bool):=.i (v.Kind==0) (.k (v.Text.toList==(ByteArray.mk #[]).toList)) (.i (v.Kind==1) (.i (v.Int==0) (.k (decide (Int.ofNat v.Text.size≤255))) (.k false)) (.i (v.Kind==2) (.i (v.Text.toList==(ByteArray.mk #[]).toList) (.i (v.Int==0) (.k true) (.k (v.Int==1))) (.k false)) (.k false)))
def zxa (v:Value):Bool×Bool:=(zEi v).fin default
abbrev zwD:=Int×List Weighted×Unit×Int×Unit
def zox (fn:Int) (items:List Weighted) (i:Int) (bound:Value):Wy zwD (Value×Unit) (Bool⊕Unit):=.i (decide (i<Int.ofNat items.length)) (.i (decide (0≤i)&&decide (i<Int.ofNat items.length)) (.bn (zxa (items.getD i.toNat default).Value) fun r0=>.i (!r0) (.k (.inl false)) (.i ((items.getD i.toNat default).Value.Kind != bound.Kind) (.k (.inl false)) (.i (fn==0) (.i ((items.getD i.toNat default).Value.Int != 1) (.k (.inl false)) (.h (fn,items,(),(IntKind.i64.wrap (i+1)),()) (bound,()))) (.h (fn,items,(),(IntKind.i64.wrap (i+1)),()) (bound,()))))) .d) (.k (.inr ()))
def zCL (x:zwD) (y:Value×Unit):Wy zwD (Value×Unit) (Bool⊕Unit):=zox x.1 x.2.1 x.2.2.2.1 y.1
def zwY (n:Nat) (fn:Int) (items:List Weighted) (i:Int) (bound:Value):Bool×(Bool⊕Unit):=zN (zCL) (.inl default) n (fn,items,(),i,()) (bound,())
def zEe (fn:Int) (items:List Weighted) (op:Int) (bound:Value):Wy0 (Bool):=.i (decide (fn<0)) (.k false) (.i (decide (fn>3)) (.k false) (.i (decide (op<5)) (.k false) (.i (decide (op>10)) (.k false) (.bn (zxa bound) fun r4=>.i (!r4) (.k false) (.i (decide (fn≤1)) (.i (bound.Kind != 0) (.k false) (.bn (zwY (fn.toNat +items.length+Int.toNat 0+1) fn items 0 bound) fun r2=>.i (isL r2) (.k (getL r2)) (.k true))) (.bn (zwY (fn.toNat +items.length+Int.toNat 0+1) fn items 0 bound) fun r3=>.i (isL r3) (.k (getL r3)) (.k true)))))))
def zB6 (fn:Int) (items:List Weighted) (op:Int) (bound:Value):Bool×Bool:=(zEe fn items op bound).fin default
def zD3 (x_:Atom):Wy0 (Bool):=.i (x_.Func==0) (.i (Int.ofNat x_.Items.length==0) (.i (x_.Op==0) (.k (x_.Bound.Kind==0&&(x_.Bound.Int==0&&(x_.Bound.Text.toList==(ByteArray.mk #[]).toList&&true)))) (.k false)) (.k false)) (.k false)
def zp9 (x_:Atom):Bool×Bool:=(zD3 x_).fin default
def zCJ (a:List Term):Wy0 (Bool):=.i (Int.ofNat a.length==1) (.i (decide ((0:Int)≤(0:Int))&&decide (0<Int.ofNat a.length)) (.i ((a.getD (Int.toNat 0) default).Coeff==1) (.i (decide ((0:Int)≤(0:Int))&&decide (0<Int.ofNat a.length)) (.i (Int.ofNat (a.getD (Int.toNat 0) default).Factors.length==1) (.i (decide ((0:Int)≤(0:Int))&&decide (0<Int.ofNat a.length)) (.i (decide ((0:Int)≤(0:Int))&&decide (0<Int.ofNat (a.getD (Int.toNat 0) default).Factors.length)) (.i (decide (((a.getD (Int.toNat 0) default).Factors.getD (Int.toNat 0) default).Atom.Kind≥2)) (.i (decide ((0:Int)≤(0:Int))&&decide (0<Int.ofNat a.length)) (.i (decide ((0:Int)≤(0:Int))&&decide (0<Int.ofNat (a.getD (Int.toNat 0) default).Factors.length)) (.k (((a.getD (Int.toNat 0) default).Factors.getD (Int.toNat 0) default).Exp==1)) .d) .d) (.k false)) .d) .d) (.k false)) .d) (.k false)) .d) (.k false)
def zrF (a:List Term):Bool×Bool:=(zCJ a).fin default
abbrev zsE:=List Term×Int×Unit
def zlt (a:List Term) (i:Int):Wy zsE (Unit) (Bool⊕Unit):=.i (decide (i<Int.ofNat a.length)) (.i (decide (0≤i)&&decide (i<Int.ofNat a.length)) (.i (Int.ofNat (a.getD i.toNat default).Factors.length==0) (.k (.inl true)) (.h (a,(IntKind.i64.wrap (i+1)),()) ())) .d) (.k (.inr ()))
def zyT (x:zsE) (y:Unit):Wy zsE (Unit) (Bool⊕Unit):=zlt x.1 x.2.1
def zzj (n:Nat) (a:List Term) (i:Int):Bool×(Bool⊕Unit):=zN (zyT) (.inl default) n (a,i,()) ()
def zAC (a:List Term):Wy0 (Bool):=.bn (zzj (a.length+Int.toNat 0+1) a 0) fun r0=>.i (isL r0) (.k (getL r0)) (.k false)
def zkc (a:List Term):Bool×Bool:=(zAC a).fin default
def allN (c:Nat→Bool):Nat→Nat→Bool
 | 0,_=>true
 | n+1,i=>c i&&allN c n (i+1)
theorem zd1 {c:Nat→Bool}:∀ {n i},allN c n i=true↔∀ k,i≤k→k<i+n→c k=true
 | 0,i=>⟨fun _ k h1 h2=>by omega,fun _=>rfl⟩
 | n+1,i=>by
  simp only [allN,Bool.and_eq_true,zd1 (n:=n)]
  constructor
  ·rintro ⟨h1,h2⟩ k h3 h4
   by_cases e:k=i
   ·rw [e]; exact h1
   ·exact h2 k (by omega) (by omega)
  ·intro h
   exact ⟨h i (by omega) (by omega),fun k h1 h2=>h k (by omega) (by omega)⟩
theorem zKN (c c':Nat→Bool):∀ n i,allN (fun k=>c k&&c' k) n i=(allN c n i&&allN c' n i)
 | 0,_=>rfl
 | n+1,i=>by
  simp only [allN,zKN c c' n (i+1)]
  cases c i <;>cases c' i <;>simp
theorem zKe {τ:Type} [Inhabited τ] (p:τ→Bool) (l:List τ):∀ n i,i+n=l.length→allN (fun k=>p (l.getD k default)) n i=(l.drop i).all p
 | 0,i,h=>by rw [zeR (by omega)]; rfl
 | n+1,i,h=>by
  rw [zbF (by omega),List.all_cons]
  simp only [allN,zKe p l n (i+1) (by omega)]
theorem zt8 {τ:Type} [Inhabited τ] (p:τ→Bool) (l:List τ):allN (fun k=>p (l.getD k default)) l.length 0=l.all p:=by
 rw [zKe p l _ _ (by omega),List.drop_zero]
section
variable {α β ρ:Type}
theorem zKE {W:α→β→Wy α β ρ} {z:ρ} (N:Nat) (ex:Nat→α) (ey:Nat→β) (c:Nat→Bool) (no yes:ρ)
  (h:∀ i,i<N→∀ (H:α→β→Bool×ρ) K D,(W (ex i) (ey i)).ev H K D=bif c i then H (ex (i+1)) (ey (i+1)) else K no)
  (he:∀ (H:α→β→Bool×ρ) K D,(W (ex N) (ey N)).ev H K D=K yes):
  ∀ n i,N<i+n→i≤N→zN W z n (ex i) (ey i)=(true,bif allN c (N - i) i then yes else no)
 | 0,i,h1,h2=>by omega
 | n+1,i,h1,h2=>by
  show (W (ex i) (ey i)).ev (zN W z n) (fun r=>(true,r)) (false,z)=_
  by_cases hi:i<N
  ·rw [h i hi,show N - i=(N - (i+1))+1 by omega]
   simp only [allN]
   cases c i with
   | false=>rfl
   | true=>rw [cond_true,zKE N ex ey c no yes h he n (i+1) (by omega) (by omega)]; rfl
  ·have:i=N:=by omega
   subst this
   rw [he,Nat.sub_self]; rfl
theorem zdK {W:α→β→Wy α β ρ} {z:ρ} (N:Nat) (ex:Nat→α) (ey:Nat→β) (c:Nat→Bool) (no yes:ρ)
  (h:∀ i,i<N→∀ (H:α→β→Bool×ρ) K D,(W (ex i) (ey i)).ev H K D=bif c i then H (ex (i+1)) (ey (i+1)) else K no)
  (he:∀ (H:α→β→Bool×ρ) K D,(W (ex N) (ey N)).ev H K D=K yes) (n:Nat) (hn:N<n):zN W z n (ex 0) (ey 0)=(true,bif allN c N 0 then yes else no):=by
 have:=zKE (z:=z) N ex ey c no yes h he n 0 (by omega) (by omega)
 simpa using this
end
def ixf {α:Type} (p:α→Bool):List α→Nat→Int
 | [],_=> -1
 | x::r,i=>bif p x then (i:Int) else ixf p r (i+1)
theorem zLX {α:Type} (p:α→Bool):∀ (l:List α) (i:Nat),decide (ixf p l i≥(0:Int))=l.any p
 | [],i=>by simp [ixf]
 | x::r,i=>by
  rw [List.any_cons]
  cases h:p x with
  | true=>simp [ixf,h]
  | false=>simpa [ixf,h] using zLX p r (i+1)
section
variable {α γ:Type} [Inhabited α]
def zJY (p:γ→α→Bool×Bool) (s:List α) (g:γ) (t7:Int) (t8:Int):Wy (List α×γ×Int×Int×Unit) (Unit) (Int⊕Unit):=.i (decide (t8<t7)) (.i (decide ((0:Int)≤t8)&&decide (t8<Int.ofNat s.length)) (.bn (p g (s.getD t8.toNat default)) fun r0=>.i (r0) (.k (.inl t8)) (.h (s,g,t7,(IntKind.i64.wrap (t8+(1:Int))),()) ())) .d) (.k (.inr ()))
def zMz (p:γ→α→Bool×Bool) (x:List α×γ×Int×Int×Unit) (y:Unit):Wy (List α×γ×Int×Int×Unit) (Unit) (Int⊕Unit):=zJY p x.1 x.2.1 x.2.2.1 x.2.2.2.1
def zME (p:γ→α→Bool×Bool) (n:Nat) (s:List α) (g:γ) (t7:Int) (t8:Int):Bool×(Int⊕Unit):=zN (zMz p) (.inl default) n (s,g,t7,t8,()) ()
def IG (p:γ→α→Bool×Bool) (n:Nat) (g:γ) (s:List α):Bool×Int:=(.bn (zME p n s g (Int.ofNat s.length) (0:Int)) fun r2=>.i (isL r2) (.k (getL r2)) (.k (-1:Int)):Wy0 Int).fin default
def zMS (p:γ→α→Bool×Bool) (s:List α) (g:γ) (t7:Int) (t8:Int):Wy (List α×γ×Int×Int×Unit) (Unit) (Int⊕Unit):=.i (decide (t8<t7)) (.i (decide ((0:Int)≤t8)&&decide (t8<Int.ofNat s.length)) (.i ((p g (s.getD t8.toNat default)).snd) (.k (.inl t8)) (.h (s,g,t7,(IntKind.i64.wrap (t8+(1:Int))),()) ())) .d) (.k (.inr ()))
def zRh (p:γ→α→Bool×Bool) (x:List α×γ×Int×Int×Unit) (y:Unit):Wy (List α×γ×Int×Int×Unit) (Unit) (Int⊕Unit):=zMS p x.1 x.2.1 x.2.2.1 x.2.2.2.1
def zNd (p:γ→α→Bool×Bool) (n:Nat) (s:List α) (g:γ) (t7:Int) (t8:Int):Bool×(Int⊕Unit):=zN (zRh p) (.inl default) n (s,g,t7,t8,()) ()
def IH (p:γ→α→Bool×Bool) (n:Nat) (g:γ) (s:List α):Bool×Int:=(.bn (zNd p n s g (Int.ofNat s.length) (0:Int)) fun r2=>.i (isL r2) (.k (getL r2)) (.k (-1:Int)):Wy0 Int).fin default
theorem zMm (p:γ→α→Bool×Bool) (P:α→Bool) (g:γ) (s:List α) (hs:s.length≤1000000000) (hp:∀ x∈s,p g x=(true,P x)):∀ (n i:Nat),s.length<i+n→i≤s.length→
  ∃ r,zME p n s g s.length i=(true,r)∧((r=.inl (ixf P (s.drop i) i))∨(r=.inr ()∧ixf P (s.drop i) i= -1))
 | 0,i,h,h2=>by omega
 | n+1,i,h,h2=>by
  show ∃ r,(zJY p s g s.length i).ev (fun x y=>zME p n x.1 x.2.1 x.2.2.1 x.2.2.2.1) (fun r=>(true,r)) (false,.inl default)=(true,r)∧_
  unfold zJY
  by_cases hi:i<s.length
  ·simp only [Wy.ev_i,Wy.ev_k,Wy.ev_h,Wy.ev_bn,Wy.ev_d,tT,hi,hp _ (zH hi)]
   rw [zbF hi,zbb (by omega)]
   simp only [ixf]
   cases P (s.getD i default) with
   | true=>exact ⟨_,rfl,.inl rfl⟩
   | false=>exact zMm p P g s hs hp n (i+1) (by omega) (by omega)
  ·simp only [Wy.ev_i,Wy.ev_k,Wy.ev_h,Wy.ev_bn,Wy.ev_d,tT,hi,zeR hi]
   exact ⟨_,rfl,.inr ⟨rfl,rfl⟩⟩
theorem zHC (p:γ→α→Bool×Bool) (P:α→Bool) (n:Nat) (g:γ) (s:List α) (hs:s.length≤1000000000) (hp:∀ x∈s,p g x=(true,P x)) (hn:s.length<n):IG p n g s=(true,ixf P s 0):=by
 unfold IG
 obtain ⟨r,h1,h2⟩:=zMm p P g s hs hp n 0 (by omega) (by omega)
 rw [show ((0:Nat):Int)=(0:Int) from rfl] at h1
 rw [Wy.fin_bn,show Int.ofNat s.length=(s.length:Int) from rfl,h1]
 rw [List.drop_zero] at h2
 rcases h2 with rfl | ⟨rfl,h2⟩
 ·rfl
 ·rw [h2]; rfl
theorem zMb (p:γ→α→Bool×Bool) (P:α→Bool) (g:γ) (s:List α) (hs:s.length≤1000000000) (hp:∀ x∈s,p g x=(true,P x)):∀ (n i:Nat),s.length<i+n→i≤s.length→
  ∃ r,zNd p n s g s.length i=(true,r)∧((r=.inl (ixf P (s.drop i) i))∨(r=.inr ()∧ixf P (s.drop i) i= -1))
 | 0,i,h,h2=>by omega
 | n+1,i,h,h2=>by
  show ∃ r,(zMS p s g s.length i).ev (fun x y=>zNd p n x.1 x.2.1 x.2.2.1 x.2.2.2.1) (fun r=>(true,r)) (false,.inl default)=(true,r)∧_
  unfold zMS
  by_cases hi:i<s.length
  ·simp only [Wy.ev_i,Wy.ev_k,Wy.ev_h,Wy.ev_bn,Wy.ev_d,tT,hi,hp _ (zH hi)]
   rw [zbF hi,zbb (by omega)]
   simp only [ixf]
   cases P (s.getD i default) with
   | true=>exact ⟨_,rfl,.inl rfl⟩
   | false=>exact zMb p P g s hs hp n (i+1) (by omega) (by omega)
  ·simp only [Wy.ev_i,Wy.ev_k,Wy.ev_h,Wy.ev_bn,Wy.ev_d,tT,hi,zeR hi]
   exact ⟨_,rfl,.inr ⟨rfl,rfl⟩⟩
theorem zRi (p:γ→α→Bool×Bool) (P:α→Bool) (n:Nat) (g:γ) (s:List α) (hs:s.length≤1000000000) (hp:∀ x∈s,p g x=(true,P x)) (hn:s.length<n):IH p n g s=(true,ixf P s 0):=by
 unfold IH
 obtain ⟨r,h1,h2⟩:=zMb p P g s hs hp n 0 (by omega) (by omega)
 rw [show ((0:Nat):Int)=(0:Int) from rfl] at h1
 rw [Wy.fin_bn,show Int.ofNat s.length=(s.length:Int) from rfl,h1]
 rw [List.drop_zero] at h2
 rcases h2 with rfl | ⟨rfl,h2⟩
 ·rfl
 ·rw [h2]; rfl
theorem zqe {α:Type} {s:List α} {P:α→Bool} {q:Bool×Int} (h:q=(true,ixf P s 0)):((.bn q fun r0=>.k (decide (r0≥(0:Int))):Wy0 Bool).fin default)=(true,s.any P):=by
 rw [h,Wy.fin_bn,cond_true,Wy.fin_k,zLX]
end
theorem beqd (a b:Int):(a==b)=decide (a=b):=by by_cases h:a=b <;>simp [h]
theorem beqn (a b:Nat):(a==b)=decide (a=b):=by by_cases h:a=b <;>simp [h]
theorem i0 (l:Nat):((l:Int)==0)=(l==0):=by
 rw [beqd,beqn]; congr 1; simp
def hasC (a:List Term):Bool:=a.any fun t=>t.Factors.length==0
theorem zC6 (a:List Term) (h:a.length≤1000000000):zd0 a=(true,hasC a):=by
 unfold zd0 zmB zcy zdG
 have:zcT a=IH (fun (_:Unit) x=>zfJ x) (a.length+(Int.ofNat a.length).toNat +Int.toNat (0:Int)+(1:Nat)) () a:=rfl
 rw [zqe (P:=fun t:Term=>t.Factors.length==0) (this.trans (zRi _ _ _ _ _ h (fun x _=>by
  unfold zfJ zkK
  rw [Wy.fin_k]
  congr 1
  exact i0 x.Factors.length) (by omega)))]
 rfl
theorem zsI (a:List Term) (h:a.length≤1000000000):zkc a=(true,hasC a):=by
 unfold zkc zAC zzj
 have:=zdK (W:=zyT) (z:=.inl default) a.length (fun i=>(a,(i:Int),())) (fun _=>()) (fun i=> !((a.getD i default).Factors.length==0)) (.inl true) (.inr ())
  (fun i hi H K D=>by
   show (zlt a i).ev H K D=_
   unfold zlt
   simp only [Wy.ev_i,Wy.ev_k,Wy.ev_h,Wy.ev_bn,Wy.ev_d,tT,hi,i0]
   rw [zbb (by omega)]
   cases (a.getD i default).Factors.length==0 <;>rfl)
  (fun H K D=>by
   show (zlt a a.length).ev H K D=_
   unfold zlt
   simp only [Wy.ev_i,Wy.ev_k,tT,Nat.lt_irrefl]) (a.length+Int.toNat (0:Int)+(1:Nat)) (by omega)
 rw [show ((0:Nat):Int)=(0:Int) from rfl] at this
 rw [Wy.fin_bn,this,zt8 (fun t:Term=> !(t.Factors.length==0)) a]
 have e:(a.all fun t:Term=> !(t.Factors.length==0))= !hasC a:=by simp [hasC,List.all_eq_not_any_not]
 rw [e]
 cases hasC a <;>rfl
def isC:List Term→Bool
 | [t]=>t.Factors.length==0
 | _=>false
theorem zEc (a:List Term):zgf a=(true,isC a):=by
 unfold zgf zng
 match a with
 | []=>rfl
 | [t]=>exact congrArg (Prod.mk true) (i0 t.Factors.length)
 | t::u::r=>
  have:((Int.ofNat (t::u::r).length)==(1:Int))=false:=by simp; omega
  rw [Wy.fin_i,this]; rfl
def oneF (p:Factor→Bool):List Factor→Bool
 | [f]=>p f
 | _=>false
def isU:List Term→Bool
 | [t]=>t.Coeff==1&&oneF (fun f=>f.Exp==1&&(f.Atom.Kind==2||f.Atom.Kind==3||f.Atom.Kind==4)) t.Factors
 | _=>false
theorem zIh (x:Atom):zev x=(true,x.Kind==3||x.Kind==4):=by
 unfold zev znh
 rw [Wy.fin_i,Wy.fin_k,Wy.fin_k]
 cases x.Kind==3 <;>rfl
theorem len2 {τ:Type} (x y:τ) (r:List τ):((Int.ofNat (x::y::r).length)==(1:Int))=false:=by
 rw [beq_eq_false_iff_ne]; simp; omega
theorem zJB (a:List Term):zjn a=(true,isU a):=by
 unfold zjn zqk
 match a with
 | []=>rfl
 | ⟨c,[]⟩::[]=>
  show (bif c != 1 then (true,false) else (true,false))=(true,c==1&&false)
  cases c != 1 <;>simp
 | ⟨c,[f]⟩::[]=>
  simp only [Wy.fin_i,Wy.fin_k,tT,isU,List.length_singleton,zIh,Wy.fin_bn,Wy.fin_d]
  show (bif c != 1 then (true,false) else bif f.Exp==1 then bif f.Atom.Kind==2 then (true,true) else (true,f.Atom.Kind==3||f.Atom.Kind==4) else (true,false))=(true,c==1&&(f.Exp==1&&(f.Atom.Kind==2||f.Atom.Kind==3||f.Atom.Kind==4)))
  rw [show (c != 1)= !(c==1) from rfl]
  cases c==1 <;>cases f.Exp==1 <;>cases f.Atom.Kind==2 <;>simp
 | ⟨c,f::g::r⟩::[]=>
  simp only [Wy.fin_i,bne,len2]
  show (bif !(c==1) then (true,false) else (true,false))=(true,c==1&&false)
  cases c==1 <;>rfl
 | t::u::r=>rw [Wy.fin_i,bne,len2]; rfl
def isB:List Term→Bool
 | [t]=>t.Coeff==1&&oneF (fun f=>f.Exp==1&&decide (2≤f.Atom.Kind)) t.Factors
 | _=>false
theorem zBw (a:List Term):zrF a=(true,isB a):=by
 unfold zrF zCJ
 match a with
 | []=>rfl
 | ⟨c,[]⟩::[]=>
  show (bif c==1 then (true,false) else (true,false))=(true,c==1&&false)
  cases c==1 <;>rfl
 | ⟨c,[f]⟩::[]=>
  simp only [Wy.fin_i,Wy.fin_k,tT,List.length_singleton,Wy.fin_bn,Wy.fin_d]
  show (bif c==1 then bif decide (2≤f.Atom.Kind) then (true,f.Exp==1) else (true,false) else (true,false))=(true,c==1&&(f.Exp==1&&decide (2≤f.Atom.Kind)))
  cases c==1 <;>cases f.Exp==1 <;>cases decide (2≤f.Atom.Kind) <;>simp
 | ⟨c,f::g::r⟩::[]=>
  rw [Wy.fin_i]
  show (bif true then (Wy.i true (Wy.i (c==1) (Wy.i true (Wy.i (Int.ofNat (f::g::r).length==1) _ (.k false)) .d) (.k false)) .d:Wy0 Bool).fin default else _)=(true,c==1&&false)
  simp only [Wy.fin_i,Wy.fin_k,len2,cond_true,cond_false]
  cases c==1 <;>rfl
 | t::u::r=>rw [Wy.fin_i,len2]; rfl
theorem zCo (a b:Nat):decide (a>b)= !decide (a≤b):=by
 by_cases h:a≤b
 ·have:¬ a>b:=by omega
  simp [h,this]
 ·have:a>b:=by omega
  simp [h,this]
def withF (t:Term):Bool:= !(decide (t.Factors.length>64)||t.Factors.any fun f=>decide (f.Exp>64)||decide (f.Atom.Items.length>1024))
def zhL (a:List Term):Bool:=decide (a.length≤512)&&decide (zbf a≤8)&&decide (zJ a≤4096)&&a.all withF
theorem zM0 (l:List Factor) (h:l.length≤1000000):zb1 l=(true,l.any fun f=>decide (f.Exp>64)||decide (f.Atom.Items.length>1024)):=by
 unfold zb1 zdO
 have hw:zb0=zMz (fun (_:Unit) x=>zeT x):=by
  funext x y
  unfold zb0 zhT zMz zJY
  rw [Factor.eta2]
 have:zcj l=IG (fun (_:Unit) x=>zeT x) (l.length+(Int.ofNat l.length).toNat +Int.toNat (0:Int)+(1:Nat)) () l:=by
  unfold zcj zd2 zhU
  rw [hw]; rfl
 exact zqe (this.trans (zHC _ _ _ _ _ (by omega) (fun x _=>by
  unfold zeT zlR
  rw [Wy.fin_i,Wy.fin_k,Wy.fin_k]
  have e:decide (Int.ofNat x.Atom.Items.length>(1024:Int))=decide (x.Atom.Items.length>1024):=zom _ 1024
  rw [e]
  cases decide (x.Exp>64) <;>rfl) (by omega)))
theorem zIW {d:Nat} {a:List Term} (h:zy d a) (hd:d≤100) (hs:zJ a≤4611686018427387904):zjq a=(true,zhL a):=by
 obtain ⟨h1,h2⟩:a.length≤1000000∧∀ t∈a,t.Factors.length≤1000000:=by
  cases d with
  | zero=>exact h.elim
  | succ d=>exact ⟨h.1,fun t ht=>(h.2 t ht).1⟩
 have h3:zbR a=(true,a.any fun t=> !withF t):=by
  unfold zbR zdC
  have:zcU a=IG (fun (_:Unit) x=>zi4 x) (a.length+(Int.ofNat a.length).toNat +Int.toNat (0:Int)+(1:Nat)) () a:=rfl
  exact zqe (this.trans (zHC _ _ _ _ _ (by omega) (fun x hx=>by
   unfold zi4 znL
   rw [Wy.fin_i,Wy.fin_k,Wy.fin_bn,zM0 _ (h2 x hx)]
   have e:decide (Int.ofNat x.Factors.length>(64:Int))=decide (x.Factors.length>64):=zom _ 64
   rw [e]
   unfold withF
   cases decide (x.Factors.length>64) <;>simp [Wy.fin_k]) (by omega)))
 unfold zjq zqf
 have n1:zrR a=(true,(zbf a:Int)):=(zIH 1000 d a h (by omega) hd).1
 have n2:zvd a=(true,(zJ a:Int)):=(zG4 1000 d a h (by omega) hs).1
 simp only [Wy.fin_i,Wy.fin_k,Wy.fin_bn,n1,n2,h3,cond_true]
 have e1:decide (Int.ofNat a.length>(512:Int))= !decide (a.length≤512):=by rw [show decide (Int.ofNat a.length>(512:Int))=decide (a.length>512) from zom _ 512]; exact zCo _ _
 have e2:decide ((zbf a:Int)>(8:Int))= !decide (zbf a≤8):=by rw [show decide ((zbf a:Int)>(8:Int))=decide (zbf a>8) from zom _ 8]; exact zCo _ _
 have e3:decide ((zJ a:Int)>(4096:Int))= !decide (zJ a≤4096):=by rw [show decide ((zJ a:Int)>(4096:Int))=decide (zJ a>4096) from zom _ 4096]; exact zCo _ _
 have e4:(a.any fun t=> !withF t)= !a.all withF:=by simp [List.all_eq_not_any_not]
 rw [e1,e2,e3,e4]
 unfold zhL
 cases decide (a.length≤512) <;>cases decide (zbf a≤8) <;>cases decide (zJ a≤4096) <;>simp
theorem zQt (a:List Term) (i:Nat) (hi:i<a.length) (hl:(a.getD i default).Factors.length≤1000000) (fuel:Nat) (hf:(a.getD i default).Factors.length<fuel):
  zD9 fuel a i 0=(true,bif (a.getD i default).Factors.any fun f=>decide (f.Exp>64)||decide (f.Atom.Items.length>1024) then .inl false else .inr (a,(i:Int))):=by
 have:=zdK (W:=zD4) (z:=.inl default) (a.getD i default).Factors.length (fun k=>(a,(i:Int),(k:Int),())) (fun _=>()) (fun k=>(fun f:Factor=> !(decide (f.Exp>64)||decide (f.Atom.Items.length>1024))) ((a.getD i default).Factors.getD k default)) (.inl false) (.inr (a,(i:Int)))
  (fun k hk H K D=>by
   show (zpU a i k).ev H K D=_
   unfold zpU
   simp only [Wy.ev_i,Wy.ev_k,Wy.ev_h,Wy.ev_bn,Wy.ev_d,tT,hi,hk]
   rw [zbb (by omega),show decide ((((a.getD i default).Factors.getD k default).Atom.Items.length:Int)>(1024:Int))=_ from zom _ 1024]
   cases decide (((a.getD i default).Factors.getD k default).Exp>64) <;>cases decide (1024<((a.getD i default).Factors.getD k default).Atom.Items.length) <;>rfl)
  (fun H K D=>by
   show (zpU a i (a.getD i default).Factors.length).ev H K D=_
   unfold zpU
   simp only [Wy.ev_i,Wy.ev_k,Wy.ev_h,Wy.ev_bn,Wy.ev_d,tT,hi,Nat.lt_irrefl]) fuel hf
 rw [zt8 (fun f:Factor=> !(decide (f.Exp>64)||decide (f.Atom.Items.length>1024)))] at this
 have e:((a.getD i default).Factors.all fun f=> !(decide (f.Exp>64)||decide (f.Atom.Items.length>1024)))= !((a.getD i default).Factors.any fun f=>decide (f.Exp>64)||decide (f.Atom.Items.length>1024)):=by simp [List.all_eq_not_any_not]
 rw [e] at this
 refine this.trans ?_
 cases (a.getD i default).Factors.any fun f=>decide (f.Exp>64)||decide (f.Atom.Items.length>1024) <;>rfl
theorem zMp {d:Nat} {a:List Term} (h:zy d a) (hd:d≤100) (hs:zJ a≤4611686018427387904):zzE a=(true,zhL a):=by
 obtain ⟨h1,h2⟩:a.length≤1000000∧∀ t∈a,t.Factors.length≤1000000:=by
  cases d with
  | zero=>exact h.elim
  | succ d=>exact ⟨h.1,fun t ht=>(h.2 t ht).1⟩
 have h3:zD6 ((a.length+Int.toNat (0:Int)+(1:Nat))+szTs a) a 0=(true,bif a.all withF then .inr () else .inl false):=by
  have:=zdK (W:=zEo) (z:=.inl default) a.length (fun k=>(a,(k:Int),())) (fun _=>()) (fun k=>withF (a.getD k default)) (.inl false) (.inr ())
   (fun k hk H K D=>by
    show (zp1 a k).ev H K D=_
    unfold zp1
    have h4:=h2 _ (zH hk)
    have h5:=zAo a k hk
    simp only [Wy.ev_i,Wy.ev_k,Wy.ev_h,Wy.ev_bn,Wy.ev_d,tT,hk]
    rw [zQt a k hk h4 _ (by omega)]
    have e:decide (((a.getD k default).Factors.length:Int)>(64:Int))=decide ((a.getD k default).Factors.length>64):=zom _ 64
    rw [e]
    unfold withF
    cases decide ((a.getD k default).Factors.length>64) <;>cases ((a.getD k default).Factors.any fun f=>decide (f.Exp>64)||decide (f.Atom.Items.length>1024))
    ·simp only [cond_false,cond_true,isL,getR]; rw [zbb (by omega)]; rfl
    all_goals rfl)
   (fun H K D=>by
    show (zp1 a a.length).ev H K D=_
    unfold zp1
    simp only [Wy.ev_i,Wy.ev_k,Wy.ev_h,Wy.ev_bn,Wy.ev_d,tT,Nat.lt_irrefl]) ((a.length+Int.toNat (0:Int)+(1:Nat))+szTs a) (by omega)
  rw [zt8] at this
  exact this
 unfold zzE zEZ
 have n1:zEb a=(true,(zbf a:Int)):=(zIH 1000 d a h (by omega) hd).2
 have n2:zHe a=(true,(zJ a:Int)):=(zG4 1000 d a h (by omega) hs).2
 simp only [Wy.fin_i,Wy.fin_k,Wy.fin_bn,n1,n2,h3,cond_true]
 have e1:decide (Int.ofNat a.length>(512:Int))= !decide (a.length≤512):=by rw [show decide (Int.ofNat a.length>(512:Int))=decide (a.length>512) from zom _ 512]; exact zCo _ _
 have e2:decide ((zbf a:Int)>(8:Int))= !decide (zbf a≤8):=by rw [show decide ((zbf a:Int)>(8:Int))=decide (zbf a>8) from zom _ 8]; exact zCo _ _
 have e3:decide ((zJ a:Int)>(4096:Int))= !decide (zJ a≤4096):=by rw [show decide ((zJ a:Int)>(4096:Int))=decide (zJ a>4096) from zom _ 4096]; exact zCo _ _
 rw [e1,e2,e3]
 unfold zhL
 cases decide (a.length≤512) <;>cases decide (zbf a≤8) <;>cases decide (zJ a≤4096) <;>cases a.all withF <;>simp [isL,getL]
def valV (v:Value):Bool:=(v.Kind==0&&v.Text.size==0)||(v.Kind==1&&v.Int==0&&decide (v.Text.size≤255))||(v.Kind==2&&v.Text.size==0&&(v.Int==0||v.Int==1))
theorem zKc (s:ByteArray):(s.toList==(ByteArray.mk #[]).toList)=(s.size==0):=by
 rw [zE3]
 by_cases h:s.size=0
 ·have:s=ByteArray.mk #[]:=zxJ (by
   have:s.data.toList.length=0:=by simpa using h
   rw [List.length_eq_zero_iff.1 this])
  subst this; rfl
 ·have:¬ s=ByteArray.mk #[]:=fun e=>h (by rw [e]; rfl)
  simp [h,this]
theorem zw7 (v:Value):znP v=(true,valV v):=by
 unfold znP zyv valV
 simp only [zKc,Wy.fin_i,Wy.fin_k,beqd,beqn]
 have e:decide (Int.ofNat v.Text.size≤(255:Int))=decide (v.Text.size≤255):=ztq _ 255
 rw [e]
 by_cases h0:v.Kind=0
 ·simp [h0]
 ·by_cases h1:v.Kind=1
  ·by_cases h2:v.Int=0 <;>simp [h1,h2]
  ·by_cases h2:v.Kind=2
   ·by_cases h3:v.Int=0
    ·simp [h2,h3]
    ·by_cases h4:v.Int=1 <;>simp [h2,h3,h4]
   ·simp [h0,h1,h2]
theorem zCs (v:Value):zxa v=(true,valV v):=by
 unfold zxa zEi valV
 simp only [zKc,Wy.fin_i,Wy.fin_k,beqd,beqn]
 have e:decide (Int.ofNat v.Text.size≤(255:Int))=decide (v.Text.size≤255):=ztq _ 255
 rw [e]
 by_cases h0:v.Kind=0
 ·simp [h0]
 ·by_cases h1:v.Kind=1
  ·by_cases h2:v.Int=0 <;>simp [h1,h2]
  ·by_cases h2:v.Kind=2
   ·by_cases h3:v.Int=0
    ·by_cases h4:v.Text.size=0 <;>simp [h2,h3,h4]
    ·by_cases h4:v.Text.size=0 <;>simp [h2,h3,h4]
   ·simp [h0,h1,h2]
def fitI (fn:Int) (b:Value) (w:Weighted):Bool:=valV w.Value&&(w.Value.Kind==b.Kind)&& !(fn==0&&w.Value.Int != 1)
def fitK (fn:Int) (l:List Weighted) (op:Int) (b:Value):Bool:=decide (0≤fn)&&decide (fn≤3)&&decide (5≤op)&&decide (op≤10)&&valV b&& !(decide (fn≤1)&&b.Kind != 0)&&l.all (fitI fn b)
theorem zPe (l:List Weighted) (fn:Int) (b:Value) (h:l.length≤1000000):zbe l b fn=(true, !l.all (fitI fn b)):=by
 unfold zbe zdi
 have:zcx l b fn=IG (fun (g:Value×(Int×Unit)×Unit) x=>zf8 x g.1 g.2.1.1) (l.length+fn.toNat +(Int.ofNat l.length).toNat +Int.toNat (0:Int)+(1:Nat)) (b,(fn,()),()) l:=rfl
 have e:(!l.all (fitI fn b))=l.any fun w=> !fitI fn b w:=by simp [List.all_eq_not_any_not]
 rw [e]
 exact zqe (this.trans (zHC _ _ _ _ _ (by omega) (fun x _=>by
  show zf8 x b fn=_
  unfold zf8 znf fitI
  simp only [Wy.fin_i,Wy.fin_k,Wy.fin_bn,zw7,cond_true,beqd,bne0]
  cases valV x.Value <;>by_cases h1:x.Value.Kind=b.Kind <;>by_cases h2:fn=0 <;>simp [beqd,bne0,h1,h2]) (by omega)))
theorem zNi (fn:Int) (l:List Weighted) (op:Int) (b:Value) (h:l.length≤1000000):ziw fn l op b=(true,fitK fn l op b):=by
 unfold ziw zpl fitK
 simp only [Wy.fin_i,Wy.fin_k,Wy.fin_bn,zw7,zPe l fn b h,cond_true,beqd,bne0]
 by_cases h1:fn<0
 ·have:¬ (0≤fn):=by omega
  simp [h1,this]
 by_cases h2:3<fn
 ·have:¬ (fn≤3):=by omega
  simp [h1,h2,this]
 by_cases h3:op<5
 ·have:¬ (5≤op):=by omega
  simp [h1,h2,h3,this]
 by_cases h4:10<op
 ·have:¬ (op≤10):=by omega
  simp [h1,h2,h3,h4,this]
 have g1:0≤fn:=by omega
 have g2:fn≤3:=by omega
 have g3:5≤op:=by omega
 have g4:op≤10:=by omega
 cases valV b with
 | false=>simp [h1,h2,h3,h4]
 | true=>
  by_cases h5:fn=0
  ·subst h5; by_cases h6:b.Kind=0 <;>simp [h3,h4,h6,g3,g4]
  ·by_cases h7:fn=1
   ·subst h7; by_cases h6:b.Kind=0 <;>simp [h3,h4,h6,g3,g4]
   ·have:¬ fn≤1:=by omega
    simp [h1,h2,h3,h4,h5,h7,this,g1,g2,g3,g4]
theorem zOH (fn:Int) (l:List Weighted) (op:Int) (b:Value) (h:l.length≤1000000):zB6 fn l op b=(true,fitK fn l op b):=by
 unfold zB6 zEe fitK
 have hl:zwY (fn.toNat +l.length+Int.toNat (0:Int)+(1:Nat)) fn l (0:Int) b=(true,bif l.all (fitI fn b) then .inr () else .inl false):=by
  have:=zdK (W:=zCL) (z:=.inl default) l.length (fun k=>(fn,l,(),(k:Int),())) (fun _=>(b,())) (fun k=>fitI fn b (l.getD k default)) (.inl false) (.inr ())
   (fun k hk H K D=>by
    show (zox fn l k b).ev H K D=_
    unfold zox fitI
    simp only [Wy.ev_i,Wy.ev_k,Wy.ev_h,Wy.ev_bn,Wy.ev_d,tT,hk,zCs,beqd,bne0]
    rw [zbb (by omega)]
    cases valV (l.getD k default).Value <;>cases decide ((l.getD k default).Value.Kind=b.Kind) <;>cases decide (fn=0) <;>cases decide ((l.getD k default).Value.Int=1) <;>rfl)
   (fun H K D=>by
    show (zox fn l l.length b).ev H K D=_
    unfold zox
    simp only [Wy.ev_i,Wy.ev_k,Wy.ev_h,Wy.ev_bn,Wy.ev_d,tT,Nat.lt_irrefl]) (fn.toNat +l.length+Int.toNat (0:Int)+(1:Nat)) (by omega)
  rw [zt8] at this
  exact this
 simp only [Wy.fin_i,Wy.fin_k,Wy.fin_bn,zCs,hl,cond_true,beqd,bne0]
 by_cases h1:fn<0
 ·have:¬ (0≤fn):=by omega
  simp [h1,this]
 by_cases h2:3<fn
 ·have:¬ (fn≤3):=by omega
  simp [h1,h2,this]
 by_cases h3:op<5
 ·have:¬ (5≤op):=by omega
  simp [h1,h2,h3,this]
 by_cases h4:10<op
 ·have:¬ (op≤10):=by omega
  simp [h1,h2,h3,h4,this]
 have g1:0≤fn:=by omega
 have g2:fn≤3:=by omega
 have g3:5≤op:=by omega
 have g4:op≤10:=by omega
 cases valV b with
 | false=>simp [h1,h2,h3,h4]
 | true=>
  by_cases h5:fn≤1
  ·by_cases h6:b.Kind=0
   ·cases l.all (fitI fn b) <;>simp [h1,h2,h3,h4,h5,h6,g1,g2,g3,g4,isL,getL]
   ·simp [h1,h2,h3,h4,h5,h6,g1,g2,g3,g4]
  ·cases l.all (fitI fn b) <;>simp [h1,h2,h3,h4,h5,g1,g2,g3,g4,isL,getL]
def bz (b:Value):Bool:=b.Kind==(0:Int)&&(b.Int==(0:Int)&&(b.Text.toList==(ByteArray.mk #[]).toList&&true))
def plA (x:Atom):Bool:=x.Func==0&&(x.Items.length==0)&&x.Op==0&&bz x.Bound
theorem zOv (x:Atom):zp9 x=(true,plA x):=by
 unfold zp9 zD3 plA
 simp only [Wy.fin_i,Wy.fin_k,Int.ofNat_eq_natCast,i0]
 show _=(true,_&&_&&_&&bz x.Bound)
 rw [show (x.Bound.Kind==(0:Int)&&(x.Bound.Int==(0:Int)&&(x.Bound.Text.toList==(ByteArray.mk #[]).toList&&true)))=bz x.Bound from rfl]
 cases x.Func==0 <;>cases x.Items.length==0 <;>cases x.Op==0 <;>rfl
def srtI (l:List Weighted) (k:Nat):Bool:=decide (k=0)||decide (cmpT (ze6 (l.getD (k - 1) default)) (ze6 (l.getD k default))≤0)
def srtW (l:List Weighted):Bool:=allN (srtI l) l.length 0
theorem zJe (c:Nat→Bool):∀ n i,allN c (n+1) i=(allN c n i&&c (i+n))
 | 0,i=>by simp [allN]
 | n+1,i=>by
  rw [allN,zJe c n (i+1),allN,show i+1+n=i+(n+1) by omega,Bool.and_assoc]
theorem zEq {d:Nat} (l:List Weighted) (hl:l.length≤1000000) (h:∀ w∈l,zy d w.Ann) (hd:d≤99):∀ (n i:Nat),i<l.length→i<n→zdu n l i=(true,bif allN (srtI l) (i+1) 0 then .inr () else .inl false)
 | 0,i,hi,hn=>by omega
 | n+1,i,hi,hn=>by
  show (zdv l i).ev (fun x y=>zdu n x.1 x.2.2.1) (fun r=>(true,r)) (false,.inl default)=_
  unfold zdv
  have hg:decide ((i:Int)>(0:Int))=decide (0<i):=zom i 0
  cases i with
  | zero=>simp [Wy.ev_i,Wy.ev_k,allN,srtI]
  | succ i=>
   have hi':i<l.length:=by omega
   have hw:IntKind.i64.wrap (((i+1:Nat):Int) - 1)=(i:Int):=by rw [zrB (by omega) (by omega)]; rfl
   have hp:decide (0<i+1)=true:=by simp
   simp only [Wy.ev_i,Wy.ev_k,Wy.ev_h,Wy.ev_bn,Wy.ev_d,hg,hp,hw,tT,hi,hi',zyQ (h _ (zH hi)) hd]
   rw [zEq l hl h hd n i hi' (by omega),zJe _ (i+1),Nat.zero_add]
   have:srtI l (i+1)= !decide (cmpT (ze6 (l.getD (i+1) default)) (ze6 (l.getD i default))<0):=by
    unfold srtI
    rw [show i+1 - 1=i from rfl,zuh (ze6 (l.getD (i+1) default)) (ze6 (l.getD i default))]
    generalize cmpT (ze6 (l.getD (i+1) default)) (ze6 (l.getD i default))=z
    by_cases hz:z<0
    ·have:¬ (-z≤0):=by omega
     simp [hz,this]
    ·have:(-z≤0):=by omega
     simp [hz,this]
   rw [this]
   cases decide (cmpT (ze6 (l.getD (i+1) default)) (ze6 (l.getD i default))<0) <;>simp
theorem zLv {d:Nat} (l:List Weighted) (hl:l.length≤1000000) (h:∀ w∈l,zy d w.Ann) (hd:d≤99):zbQ l=(true,srtW l):=by
 unfold zbQ zdD srtW
 match l,hl,h with
 | [],_,_=>rfl
 | x::r,hl,h=>
  have hw:IntKind.i64.wrap (Int.ofNat (x::r).length - 1)=(r.length:Int):=by
   rw [List.length_cons] at hl
   rw [show Int.ofNat (x::r).length=(((x::r).length:Nat):Int) from rfl,zrB (by simp) (by simp; omega)]; rfl
  rw [Wy.fin_bn,hw,zEq (x::r) hl h hd _ r.length (by simp) (by simp; omega)]
  cases allN (srtI (x::r)) (r.length+1) 0 with
  | true=>simp [Wy.fin_i,Wy.fin_k,isL]
  | false=>simp [Wy.fin_i,Wy.fin_k,isL,getL]
abbrev zwF:=List Term×Int×Unit×Int×Unit
abbrev ttTref05Valid1:=Bool⊕(List Term×Int)
abbrev zwq:=List Term×Int×Unit
def zlu (zbE:Atom→Bool×Bool) (a:List Term) (i:Int) (k:Int) (t:Term):Wy zwF (Term×Unit) ttTref05Valid1:=.i (decide (k<Int.ofNat t.Factors.length)) (.i (decide (0≤k)&&decide (k<Int.ofNat t.Factors.length)) (.i (decide ((t.Factors.getD k.toNat default).Exp<1)) (.k (.inl false)) (.i (decide ((t.Factors.getD k.toNat default).Exp>1)) (.i (decide ((t.Factors.getD k.toNat default).Atom.Kind≥3)) (.k (.inl false)) (.bn (zbE (Atom.mk (t.Factors.getD k.toNat default).Atom.Kind (t.Factors.getD k.toNat default).Atom.Row (t.Factors.getD k.toNat default).Atom.Args (t.Factors.getD k.toNat default).Atom.Func (t.Factors.getD k.toNat default).Atom.Items (t.Factors.getD k.toNat default).Atom.Op (t.Factors.getD k.toNat default).Atom.Bound)) fun r1=>.i (!r1) (.k (.inl false)) (.i (decide (k>0)) (.i (decide (0≤IntKind.i64.wrap (k - 1))&&decide (IntKind.i64.wrap (k - 1)<Int.ofNat t.Factors.length)) (.bn (zly (Atom.mk (t.Factors.getD (IntKind.i64.wrap (k - 1)).toNat default).Atom.Kind (t.Factors.getD (IntKind.i64.wrap (k - 1)).toNat default).Atom.Row (t.Factors.getD (IntKind.i64.wrap (k - 1)).toNat default).Atom.Args (t.Factors.getD (IntKind.i64.wrap (k - 1)).toNat default).Atom.Func (t.Factors.getD (IntKind.i64.wrap (k - 1)).toNat default).Atom.Items (t.Factors.getD (IntKind.i64.wrap (k - 1)).toNat default).Atom.Op (t.Factors.getD (IntKind.i64.wrap (k - 1)).toNat default).Atom.Bound) (Atom.mk (t.Factors.getD k.toNat default).Atom.Kind (t.Factors.getD k.toNat default).Atom.Row (t.Factors.getD k.toNat default).Atom.Args (t.Factors.getD k.toNat default).Atom.Func (t.Factors.getD k.toNat default).Atom.Items (t.Factors.getD k.toNat default).Atom.Op (t.Factors.getD k.toNat default).Atom.Bound)) fun r0=>.i (decide (r0≥0)) (.k (.inl false)) (.h (a,i,(),(IntKind.i64.wrap (k+1)),()) (t,()))) .d) (.h (a,i,(),(IntKind.i64.wrap (k+1)),()) (t,()))))) (.bn (zbE (Atom.mk (t.Factors.getD k.toNat default).Atom.Kind (t.Factors.getD k.toNat default).Atom.Row (t.Factors.getD k.toNat default).Atom.Args (t.Factors.getD k.toNat default).Atom.Func (t.Factors.getD k.toNat default).Atom.Items (t.Factors.getD k.toNat default).Atom.Op (t.Factors.getD k.toNat default).Atom.Bound)) fun r3=>.i (!r3) (.k (.inl false)) (.i (decide (k>0)) (.i (decide (0≤IntKind.i64.wrap (k - 1))&&decide (IntKind.i64.wrap (k - 1)<Int.ofNat t.Factors.length)) (.bn (zly (Atom.mk (t.Factors.getD (IntKind.i64.wrap (k - 1)).toNat default).Atom.Kind (t.Factors.getD (IntKind.i64.wrap (k - 1)).toNat default).Atom.Row (t.Factors.getD (IntKind.i64.wrap (k - 1)).toNat default).Atom.Args (t.Factors.getD (IntKind.i64.wrap (k - 1)).toNat default).Atom.Func (t.Factors.getD (IntKind.i64.wrap (k - 1)).toNat default).Atom.Items (t.Factors.getD (IntKind.i64.wrap (k - 1)).toNat default).Atom.Op (t.Factors.getD (IntKind.i64.wrap (k - 1)).toNat default).Atom.Bound) (Atom.mk (t.Factors.getD k.toNat default).Atom.Kind (t.Factors.getD k.toNat default).Atom.Row (t.Factors.getD k.toNat default).Atom.Args (t.Factors.getD k.toNat default).Atom.Func (t.Factors.getD k.toNat default).Atom.Items (t.Factors.getD k.toNat default).Atom.Op (t.Factors.getD k.toNat default).Atom.Bound)) fun r2=>.i (decide (r2≥0)) (.k (.inl false)) (.h (a,i,(),(IntKind.i64.wrap (k+1)),()) (t,()))) .d) (.h (a,i,(),(IntKind.i64.wrap (k+1)),()) (t,())))))) .d) (.k (.inr (a,i)))
def zzh (zbE:Atom→Bool×Bool) (x:zwF) (y:Term×Unit):Wy zwF (Term×Unit) ttTref05Valid1:=zlu zbE x.1 x.2.1 x.2.2.2.1 y.1
def zsL (zbE:Atom→Bool×Bool) (n:Nat) (a:List Term) (i:Int) (k:Int) (t:Term):Bool×ttTref05Valid1:=zN (zzh zbE) (.inl default) n (a,i,(),k,()) (t,())
def zmN (zbE:Atom→Bool×Bool) (a:List Term) (i:Int):Wy zwq (Unit) (Bool⊕Unit):=.i (decide (i<Int.ofNat a.length)) (.i (decide (0≤i)&&decide (i<Int.ofNat a.length)) (.i (decide ((a.getD i.toNat default).Coeff<1)) (.k (.inl false)) (.i (decide ((a.getD i.toNat default).Coeff>1152921504606846976)) (.k (.inl false)) (.i (decide (i>0)) (.i (decide (0≤IntKind.i64.wrap (i - 1))&&decide (IntKind.i64.wrap (i - 1)<Int.ofNat a.length)) (.bn (zlY (a.getD (IntKind.i64.wrap (i - 1)).toNat default).Factors (a.getD i.toNat default).Factors) fun r9=>.i (decide (r9≥0)) (.k (.inl false)) (.bn (zsL zbE (((a.length+i.toNat +Int.toNat 0+1)+(a.getD i.toNat default).Factors.length)+szTs a) a i 0 (a.getD i.toNat default)) fun r8=>.i (isL r8) (.k (.inl (getL r8))) (.h ((getR r8).1,(IntKind.i64.wrap ((getR r8).2+1)),()) ()))) .d) (.bn (zsL zbE (((a.length+i.toNat +Int.toNat 0+1)+(a.getD i.toNat default).Factors.length)+szTs a) a i 0 (a.getD i.toNat default)) fun r10=>.i (isL r10) (.k (.inl (getL r10))) (.h ((getR r10).1,(IntKind.i64.wrap ((getR r10).2+1)),()) ()))))) .d) (.k (.inr ()))
def zAy (zbE:Atom→Bool×Bool) (x:zwq) (y:Unit):Wy zwq (Unit) (Bool⊕Unit):=zmN zbE x.1 x.2.1
def zAW (zbE:Atom→Bool×Bool) (n:Nat) (a:List Term) (i:Int):Bool×(Bool⊕Unit):=zN (zAy zbE) (.inl default) n (a,i,()) ()
def zBR (zbE:Atom→Bool×Bool) (a:List Term):Wy0 (Bool):=.bn (zzE a) fun r15=>.i (!r15) (.k false) (.bn (zAW zbE ((a.length+Int.toNat 0+1)+szTs a) a 0) fun r14=>.i (isL r14) (.k (getL r14)) (.k true))
def ztC (zbE:Atom→Bool×Bool) (a:List Term):Bool×Bool:=(zBR zbE a).fin default
abbrev zit:=Unit×Int×Unit
def zjb (zcK:List Term→Bool×Bool) (i:Int) (x_:Atom):Wy zit (Atom×Unit) (Bool⊕Atom):=.i (decide (i<Int.ofNat x_.Args.length)) (.i (decide (0≤i)&&decide (i<Int.ofNat x_.Args.length)) (.i (Int.ofNat (List.length (x_.Args.getD i.toNat default))==0) (.k (.inl false)) (.i (decide (0≤i)&&decide (i<Int.ofNat x_.Args.length)) (.bn (zcK (x_.Args.getD i.toNat default)) fun r0=>.i (!r0) (.k (.inl false)) (.h ((),(IntKind.i64.wrap (i+1)),()) (x_,()))) .d)) .d) (.k (.inr x_))
def zvv (zcK:List Term→Bool×Bool) (x:zit) (y:Atom×Unit):Wy zit (Atom×Unit) (Bool⊕Atom):=zjb zcK x.2.1 y.1
def zpv (zcK:List Term→Bool×Bool) (n:Nat) (i:Int) (x_:Atom):Bool×(Bool⊕Atom):=zN (zvv zcK) (.inl default) n ((),i,()) (x_,())
def zio (zcK:List Term→Bool×Bool) (i:Int) (x_:Atom):Wy zit (Atom×Unit) (Bool⊕Unit):=.i (decide (i<Int.ofNat x_.Items.length)) (.i (decide (0≤i)&&decide (i<Int.ofNat x_.Items.length)) (.i (Int.ofNat (x_.Items.getD i.toNat default).Ann.length==0) (.k (.inl false)) (.i (decide (0≤i)&&decide (i<Int.ofNat x_.Items.length)) (.bn (zcK (x_.Items.getD i.toNat default).Ann) fun r3=>.i (!r3) (.k (.inl false)) (.i (decide (i>0)) (.i (decide (0≤IntKind.i64.wrap (i - 1))&&decide (IntKind.i64.wrap (i - 1)≤i)&&decide (i≤Int.ofNat x_.Items.length)) (.i (decide (0≤i)&&decide (i≤IntKind.i64.wrap (i+1))&&decide (IntKind.i64.wrap (i+1)≤Int.ofNat x_.Items.length)) (.bn (zx1 (List.take (i.toNat - (IntKind.i64.wrap (i - 1)).toNat) (List.drop (IntKind.i64.wrap (i - 1)).toNat x_.Items)) (List.take ((IntKind.i64.wrap (i+1)).toNat - i.toNat) (List.drop i.toNat x_.Items))) fun r2=>.i (decide (r2>0)) (.k (.inl false)) (.h ((),(IntKind.i64.wrap (i+1)),()) (x_,()))) .d) .d) (.h ((),(IntKind.i64.wrap (i+1)),()) (x_,())))) .d)) .d) (.k (.inr ()))
def zt1 (zcK:List Term→Bool×Bool) (x:zit) (y:Atom×Unit):Wy zit (Atom×Unit) (Bool⊕Unit):=zio zcK x.2.1 y.1
def zuk (zcK:List Term→Bool×Bool) (n:Nat) (i:Int) (x_:Atom):Bool×(Bool⊕Unit):=zN (zt1 zcK) (.inl default) n ((),i,()) (x_,())
def zwm (zcK:List Term→Bool×Bool) (x_:Atom):Wy0 (Bool):=.i (x_.Kind==0) (.i (decide (x_.Row.Table≥1)) (.i (decide (x_.Row.Seq≥1)) (.i (Int.ofNat x_.Args.length==0) (.bn (zp9 (Atom.mk x_.Kind x_.Row x_.Args x_.Func x_.Items x_.Op x_.Bound)) fun r6=>.k r6) (.k false)) (.k false)) (.k false)) (.i (!(x_.Row.Table==0&&(x_.Row.Seq==0&&true))) (.k false) (.bn (zpv zcK ((Int.toNat 0+1)+(Atom.mk x_.Kind x_.Row x_.Args x_.Func x_.Items x_.Op x_.Bound).Args.length+(Atom.mk x_.Kind x_.Row x_.Args x_.Func x_.Items x_.Op x_.Bound).Items.length) 0 (Atom.mk x_.Kind x_.Row x_.Args x_.Func x_.Items x_.Op x_.Bound)) fun r17=>.i (isL r17) (.k (getL r17)) (.i ((getR r17).Kind==1) (.i (Int.ofNat (getR r17).Args.length==2) (.bn (zp9 (Atom.mk (getR r17).Kind (getR r17).Row (getR r17).Args (getR r17).Func (getR r17).Items (getR r17).Op (getR r17).Bound)) fun r8=>.i (r8) (.i (decide ((0:Int)≤(0:Int))&&decide (0<Int.ofNat (getR r17).Args.length)) (.i (decide ((0:Int)≤(1:Int))&&decide (1<Int.ofNat (getR r17).Args.length)) (.bn (zr7 ((getR r17).Args.getD (Int.toNat 0) default) ((getR r17).Args.getD (Int.toNat 1) default)) fun r7=>.k (!r7)) .d) .d) (.k false)) (.k false)) (.i ((getR r17).Kind==2) (.i (Int.ofNat (getR r17).Args.length==1) (.bn (zp9 (Atom.mk (getR r17).Kind (getR r17).Row (getR r17).Args (getR r17).Func (getR r17).Items (getR r17).Op (getR r17).Bound)) fun r12=>.i (r12) (.i (decide ((0:Int)≤(0:Int))&&decide (0<Int.ofNat (getR r17).Args.length)) (.i (Int.ofNat (List.length ((getR r17).Args.getD (Int.toNat 0) default))==1) (.i (decide ((0:Int)≤(0:Int))&&decide (0<Int.ofNat (getR r17).Args.length)) (.bn (zkc ((getR r17).Args.getD (Int.toNat 0) default)) fun r10=>.i (!r10) (.i (decide ((0:Int)≤(0:Int))&&decide (0<Int.ofNat (getR r17).Args.length)) (.bn (zrF ((getR r17).Args.getD (Int.toNat 0) default)) fun r9=>.k (!r9)) .d) (.k false)) .d) (.i (decide ((0:Int)≤(0:Int))&&decide (0<Int.ofNat (getR r17).Args.length)) (.bn (zrF ((getR r17).Args.getD (Int.toNat 0) default)) fun r11=>.k (!r11)) .d)) .d) (.k false)) (.k false)) (.i ((getR r17).Kind==3) (.i (Int.ofNat (getR r17).Args.length==1) (.bn (zp9 (Atom.mk (getR r17).Kind (getR r17).Row (getR r17).Args (getR r17).Func (getR r17).Items (getR r17).Op (getR r17).Bound)) fun r14=>.i (r14) (.i (decide ((0:Int)≤(0:Int))&&decide (0<Int.ofNat (getR r17).Args.length)) (.bn (zkc ((getR r17).Args.getD (Int.toNat 0) default)) fun r13=>.k (!r13)) .d) (.k false)) (.k false)) (.i ((getR r17).Kind==4) (.i (Int.ofNat (getR r17).Args.length != 0) (.k false) (.i (Int.ofNat (getR r17).Items.length==0) (.k false) (.i (decide (Int.ofNat (getR r17).Items.length>1024)) (.k false) (.bn (zB6 (getR r17).Func (getR r17).Items (getR r17).Op (getR r17).Bound) fun r16=>.i (!r16) (.k false) (.bn (zuk zcK ((Int.toNat 0+1)+(Atom.mk (getR r17).Kind (getR r17).Row (getR r17).Args (getR r17).Func (getR r17).Items (getR r17).Op (getR r17).Bound).Args.length+(Atom.mk (getR r17).Kind (getR r17).Row (getR r17).Args (getR r17).Func (getR r17).Items (getR r17).Op (getR r17).Bound).Items.length) 0 (Atom.mk (getR r17).Kind (getR r17).Row (getR r17).Args (getR r17).Func (getR r17).Items (getR r17).Op (getR r17).Bound)) fun r15=>.i (isL r15) (.k (getL r15)) (.k true)))))) (.k false)))))))
def zoi (zcK:List Term→Bool×Bool) (x_:Atom):Bool×Bool:=(zwm zcK x_).fin default
def zzz:Nat→(List Term→Bool×Bool)×(Atom→Bool×Bool)
 | 0=>(fun _=>(false,default),fun _=>(false,default))
 | n+1=>(ztC ((zzz n).2),zoi ((zzz n).1))
def ztD (n:Nat):List Term→Bool×Bool:=(zzz n).1
def zsH (n:Nat):Atom→Bool×Bool:=(zzz n).2
theorem zGR (n:Nat):ztD (n+1)=ztC (zsH n):=rfl
theorem zDF (n:Nat):zsH (n+1)=zoi (ztD n):=rfl
def zmj:List Term→Bool×Bool:=ztD 1000
def rz (r:RowID):Bool:=r.Table==(0:Int)&&(r.Seq==(0:Int)&&true)
def zmO (V:List Term→Bool) (l:List (List Term)):Bool:=l.all fun a=>V a&& !(a.length==0)
def zus (V:List Term→Bool) (l:List Weighted):Bool:=l.all fun w=>V w.Ann&& !(w.Ann.length==0)
def zzp (r:RowID):Bool:=decide (r.Table≥1)&&decide (r.Seq≥1)
def zxf (p:List Term→Bool):List (List Term)→Bool
 | [a]=>p a
 | _=>false
def zIc (p:List Term→List Term→Bool):List (List Term)→Bool
 | [a,b]=>p a b
 | _=>false
def zeF (V:List Term→Bool) (x:Atom):Bool:=
 zmO V x.Args&&
 if x.Kind=0 then plA x&&zzp x.Row&&(x.Args.length==0)
 else rz x.Row&&
  if x.Kind=1 then plA x&&zIc (fun a b=> !decide (a=b)) x.Args
  else if x.Kind=2 then plA x&&zxf (fun a=> !isC a&& !isU a) x.Args
  else if x.Kind=3 then plA x&&zxf (fun a=> !hasC a) x.Args
  else if x.Kind=4 then (x.Args.length==0)&&decide (0<x.Items.length)&&zus V x.Items&&srtW x.Items&&fitK x.Func x.Items x.Op x.Bound
  else false
def chkF (vat:Atom→Bool) (fs:List Factor) (k:Nat):Bool:=
 decide (1≤(fs.getD k default).Exp)&& !(((fs.getD k default).Atom.Kind==3||(fs.getD k default).Atom.Kind==4)&&(fs.getD k default).Exp != 1)&&
  (decide (k=0)||decide (cmpT (zds (fs.getD (k - 1) default).Atom) (zds (fs.getD k default).Atom)<0))&&vat (fs.getD k default).Atom
def okF (vat:Atom→Bool) (fs:List Factor):Bool:=allN (chkF vat fs) fs.length 0
def chkT (vat:Atom→Bool) (a:List Term) (i:Nat):Bool:=
 decide (1≤(a.getD i default).Coeff)&&decide ((a.getD i default).Coeff≤1152921504606846976)&&
  (decide (i=0)||decide (cmpL (zbo (a.getD (i - 1) default).Factors) (zbo (a.getD i default).Factors)<0))&&okF vat (a.getD i default).Factors
def vAnn (vat:Atom→Bool) (a:List Term):Bool:=zhL a&&allN (chkT vat a) a.length 0
def zbP:Nat→List Term→Bool
 | 0,_=>false
 | n+1,a=>vAnn (zeF (zbP n)) a
theorem zBr (r:RowID):zmC r=(true,zzp r):=by
 unfold zmC zwL zzp
 rw [Wy.fin_i,Wy.fin_k,Wy.fin_k]
 cases decide (r.Table≥1) <;>rfl
theorem zu0 {V:List Term→Bool} {x:Atom} (h:zeF V x=true):0≤x.Kind∧x.Kind≤4:=by
 unfold zeF at h
 by_cases h0:x.Kind=0
 ·omega
 by_cases h1:x.Kind=1
 ·omega
 by_cases h2:x.Kind=2
 ·omega
 by_cases h3:x.Kind=3
 ·omega
 by_cases h4:x.Kind=4
 ·omega
 simp [h0,h1,h2,h3,h4] at h
theorem zr9 (l k:Nat):((Int.ofNat l)==(k:Int))=(l==k):=by
 rw [beqd,beqn]; congr 1; simp; omega
section
variable (V:List Term→Bool) (gW:List Weighted→Bool×Bool) (gA:List (List Term)→Bool×Bool) (c1:List Term→Bool×Bool) (c2:Weighted→Bool×Bool)
theorem zID (x:Atom) {d:Nat} (hx:zc8 (zy d) x) (hd:d≤99) (hA:gA x.Args=(true, !zmO V x.Args)) (hW:gW x.Items=(true, !zus V x.Items)):
  zh7 gW gA c1 c2 x=(true,zeF V x):=by
 have hS:=zLv x.Items hx.1.2.1 (fun w hw=>(hx.2.2 w hw).2) hd
 have hF:=zNi x.Func x.Items x.Op x.Bound hx.1.2.1
 have hE:∀ a∈x.Args,∀ b,zca a b=(true,decide (a=b)):=fun a ha b=>zqh (hx.2.1 a ha) (by omega) b
 have hC:∀ a∈x.Args,zd0 a=(true,hasC a):=fun a ha=>zC6 a (by
  have:=hx.2.1 a ha
  cases d with
  | zero=>exact this.elim
  | succ d=>have:=this.1; omega)
 obtain ⟨k,r,l,f,its,o,b⟩:=x
 simp only at hA hW hS hF hE hC
 unfold zh7 zbJ zeF plA
 simp only [zBr,hA,hW,hS,hF,Wy.fin_i,Wy.fin_k,Wy.fin_bn,cond_true]
 rw [show (b.Kind==(0:Int)&&(b.Int==(0:Int)&&(b.Text.toList==(ByteArray.mk #[]).toList&&true)))=bz b from rfl,
  show (r.Table==(0:Int)&&(r.Seq==(0:Int)&&true))=rz r from rfl,
  show (Int.ofNat its.length != 0)= !(its.length==0) from congrArg not (zr9 its.length 0),show (f != 0)= !(f==0) from rfl,show (o != 0)= !(o==0) from rfl]
 generalize zmO V l=A at *
 generalize zus V its=W at *
 generalize bz b=B at *
 generalize (f==0)=F at *
 generalize (o==0)=O at *
 generalize rz r=R at *
 generalize zzp r=RO at *
 generalize srtW its=S at *
 generalize fitK f its o b=K at *
 have hgt:decide (Int.ofNat its.length>0)=decide (0<its.length):=zom its.length 0
 rw [hgt]
 generalize (its.length==0)=I at *
 generalize decide (0<its.length)=J at *
 by_cases h0:k=0
 ·subst h0
  simp only [zr9,show ((Int.ofNat l.length)==(0:Int))=(l.length==0) from zr9 l.length 0]
  generalize (l.length==0)=L
  cases F <;>cases I <;>cases O <;>cases B <;>cases A <;>cases RO <;>rfl
 by_cases h1:k=1
 ·subst h1
  match l,hE with
  | [],_=>cases F <;>cases I <;>cases O <;>cases B <;>cases A <;>cases R <;>rfl
  | [u],_=>cases F <;>cases I <;>cases O <;>cases B <;>cases A <;>cases R <;>rfl
  | [u,v],hE=>
   have e:=hE u (by simp) v
   simp only [List.getD,List.length_cons,List.length_nil,Int.toNat_zero,List.getElem?_cons_zero,List.getElem?_cons_succ,Option.getD,show Int.toNat 1=1 from rfl,zIc]
   simp only [e]
   generalize decide (u=v)=E
   cases F <;>cases I <;>cases O <;>cases B <;>cases A <;>cases R <;>rfl
  | u::v::w::l,_=>
   have e:((Int.ofNat (u::v::w::l).length)==(2:Int))=false:=by rw [beq_eq_false_iff_ne]; simp; omega
   simp only [e]
   cases F <;>cases I <;>cases O <;>cases B <;>cases A <;>cases R <;>rfl
 by_cases h2:k=2
 ·subst h2
  match l with
  | []=>cases F <;>cases I <;>cases O <;>cases B <;>cases A <;>cases R <;>rfl
  | [u]=>
   simp only [List.getD,List.length_cons,List.length_nil,Int.toNat_zero,List.getElem?_cons_zero,Option.getD,zxf,zEc,zJB]
   generalize isC u=E
   generalize isU u=E'
   cases F <;>cases I <;>cases O <;>cases B <;>cases A <;>cases R <;>cases E <;>cases E' <;>rfl
  | u::v::l=>
   simp only [len2]
   cases F <;>cases I <;>cases O <;>cases B <;>cases A <;>cases R <;>rfl
 by_cases h3:k=3
 ·subst h3
  match l,hC with
  | [],_=>cases F <;>cases I <;>cases O <;>cases B <;>cases A <;>cases R <;>rfl
  | [u],hC=>
   have e:=hC u (by simp)
   simp only [List.getD,List.length_cons,List.length_nil,Int.toNat_zero,List.getElem?_cons_zero,Option.getD,zxf]
   simp only [e]
   generalize hasC u=E
   cases F <;>cases I <;>cases O <;>cases B <;>cases A <;>cases R <;>cases E <;>rfl
  | u::v::l,_=>
   simp only [len2]
   cases F <;>cases I <;>cases O <;>cases B <;>cases A <;>cases R <;>rfl
 by_cases h4:k=4
 ·subst h4
  simp only [show ((Int.ofNat l.length)==(0:Int))=(l.length==0) from zr9 l.length 0]
  generalize (l.length==0)=L
  cases A <;>cases W <;>cases L <;>cases J <;>cases S <;>cases K <;>cases R <;>rfl
 simp only [beqd,h0,h1,h2,h3,h4,decide_false,if_false,cond_false]
 cases F <;>cases I <;>cases O <;>cases B <;>cases A <;>cases R <;>rfl
end
section
variable (V:List Term→Bool) (g:List Term→Bool×Bool)
theorem zRq (x:Atom) (hl:x.Args.length≤1000000) (hg:∀ a∈x.Args,g a=(true,V a)) (n:Nat) (hn:x.Args.length<n):zpv g n 0 x=(true,bif zmO V x.Args then .inr x else .inl false):=by
 have:=zdK (W:=zvv g) (z:=.inl default) x.Args.length (fun i=>((),(i:Int),())) (fun _=>(x,())) (fun i=>(fun a:List Term=>V a&& !(a.length==0)) (x.Args.getD i default)) (.inl false) (.inr x)
  (fun i hi H K D=>by
   show (zjb g i x).ev H K D=_
   unfold zjb
   have hL:decide ((i:Int)<Int.ofNat x.Args.length)=true:=by simp [hi]
   simp only [Wy.ev_i,Wy.ev_k,Wy.ev_h,Wy.ev_bn,Wy.ev_d,hL,zfj,Bool.and_self,cond_true,Int.toNat_natCast,hg _ (zH hi)]
   rw [zbb (by omega),show (Int.ofNat (x.Args.getD i default).length==(0:Int))=((x.Args.getD i default).length==0) from zr9 _ 0]
   cases V (x.Args.getD i default) <;>cases ((x.Args.getD i default).length==0) <;>rfl)
  (fun H K D=>by
   show (zjb g x.Args.length x).ev H K D=_
   unfold zjb
   have hL:decide ((x.Args.length:Int)<Int.ofNat x.Args.length)=false:=by simp
   simp only [Wy.ev_i,Wy.ev_k,hL,cond_false]) n hn
 rw [zt8 (fun a:List Term=>V a&& !(a.length==0))] at this
 exact this
theorem zPl {τ:Type} [Inhabited τ] (l:List τ) (i:Nat) (h:i<l.length):List.take 1 (List.drop i l)=[l.getD i default]:=by
 rw [zbF h]; rfl
theorem zRd (x y:TT):cmpL [x] [y]=cmpT x y:=by
 simp only [cmpL]
 split
 ·rename_i h; exact h.symm
 ·rfl
theorem zQR (x:Atom) {d:Nat} (hx:zc8 (zy d) x) (hd:d≤99) (hg:∀ a∈x.Items,g a.Ann=(true,V a.Ann)) (n:Nat) (hn:x.Items.length<n):zuk g n 0 x=(true,bif zus V x.Items&&srtW x.Items then .inr () else .inl false):=by
 have hl:x.Items.length≤1000000:=hx.1.2.1
 have:=zdK (W:=zt1 g) (z:=.inl default) x.Items.length (fun i=>((),(i:Int),())) (fun _=>(x,())) (fun i=>(fun w:Weighted=>V w.Ann&& !(w.Ann.length==0)) (x.Items.getD i default)&&srtI x.Items i) (.inl false) (.inr ())
  (fun i hi H K D=>by
   show (zio g i x).ev H K D=_
   unfold zio
   have hL:decide ((i:Int)<Int.ofNat x.Items.length)=true:=by simp [hi]
   simp only [Wy.ev_i,Wy.ev_k,Wy.ev_h,Wy.ev_bn,Wy.ev_d,hL,zfj,Bool.and_self,cond_true,Int.toNat_natCast,hg _ (zH hi)]
   rw [zbb (by omega),show (Int.ofNat (x.Items.getD i default).Ann.length==(0:Int))=((x.Items.getD i default).Ann.length==0) from zr9 _ 0]
   cases V (x.Items.getD i default).Ann <;>cases ((x.Items.getD i default).Ann.length==0) <;>try rfl
   simp only [cond_true,cond_false,Bool.not_true,Bool.not_false,Bool.and_self,Bool.true_and]
   cases i with
   | zero=>rfl
   | succ i=>
    have hi':i<x.Items.length:=by omega
    have hw:IntKind.i64.wrap (((i+1:Nat):Int) - 1)=(i:Int):=by rw [zrB (by omega) (by omega)]; rfl
    have e1:(decide ((0:Int)≤(i:Int))&&decide ((i:Int)≤((i+1:Nat):Int))&&decide (((i+1:Nat):Int)≤Int.ofNat x.Items.length))=true:=by
     simp; try omega
    have e2:(decide (((i+1:Nat):Int)≤((i+1+1:Nat):Int))&&decide (((i+1+1:Nat):Int)≤Int.ofNat x.Items.length))=true:=by
     simp; try omega
    have e3:decide (((i+1:Nat):Int)>0)=true:=by simp; try omega
    simp only [hw,e1,e2,e3,cond_true,Bool.true_and,Int.toNat_natCast,show i+1 - i=1 by omega,show i+1+1 - (i+1)=1 by omega,zPl _ _ hi,zPl _ _ hi']
    rw [zCU (d:=d) (by simp) (fun w hw=>by
     rw [List.mem_singleton] at hw; subst hw; exact (hx.2.2 _ (zH hi')).2) hd,zn1,zn1]
    simp only [List.map,zRd,cond_true,srtI,show i+1 - 1=i from rfl]
    have e4:decide (i+1=0)=false:=by simp
    rw [e4,Bool.false_or]
    generalize cmpT (ze6 (x.Items.getD i default)) (ze6 (x.Items.getD (i+1) default))=z
    by_cases hz:z>0
    ·have:¬ z≤0:=by omega
     simp only [hz,this,decide_true,decide_false,cond_true,cond_false]
    ·have:z≤0:=by omega
     simp only [hz,this,decide_true,decide_false,cond_true,cond_false])
  (fun H K D=>by
   show (zio g x.Items.length x).ev H K D=_
   unfold zio
   have hL:decide ((x.Items.length:Int)<Int.ofNat x.Items.length)=false:=by simp
   simp only [Wy.ev_i,Wy.ev_k,hL,cond_false]) n hn
 rw [zKN (fun i=>(fun w:Weighted=>V w.Ann&& !(w.Ann.length==0)) (x.Items.getD i default)),zt8 (fun w:Weighted=>V w.Ann&& !(w.Ann.length==0))] at this
 exact this
theorem zFZ {A ρ:Type} (s:A) (k:A→Wy0 ρ) (z:ρ):(Wy.bn (true,s) k).fin z=(k s).fin z:=rfl
theorem zHA (x:Atom) {d:Nat} (hx:zc8 (zy d) x) (hd:d≤99) (h10:x.Items.length≤1024) (hV:∀ a,V a=true→isB a=isU a) (hgA:∀ a∈x.Args,g a=(true,V a)) (hgI:∀ a∈x.Items,g a.Ann=(true,V a.Ann)):
  zoi g x=(true,zeF V x):=by
 have hS:=fun n hn=>zQR V g x hx hd hgI n hn
 have hA:=fun n hn=>zRq V g x hx.1.1 hgA n hn
 have hF:=zOH x.Func x.Items x.Op x.Bound hx.1.2.1
 have hE:∀ a∈x.Args,∀ b,zr7 a b=(true,decide (a=b)):=fun a ha b=>zyN (hx.2.1 a ha) (by omega) b
 have hC:∀ a∈x.Args,zkc a=(true,hasC a):=fun a ha=>zsI a (by
  have:=hx.2.1 a ha
  cases d with
  | zero=>exact this.elim
  | succ d=>have:=this.1; omega)
 have hP:=zOv x
 unfold zoi zwm zeF
 obtain ⟨s,hs1,hs2⟩:∃ s,zpv g ((Int.toNat (0:Int)+(1:Nat))+x.Args.length+x.Items.length) 0 x=(true,s)∧s=bif zmO V x.Args then .inr x else .inl false:=⟨_,hA _ (by omega),rfl⟩
 rw [Atom.eta,hP,hs1]
 simp only [Wy.fin_i,Wy.fin_k,zFZ]
 simp only [Wy.fin_i,Wy.fin_k,Wy.fin_bn,cond_true]
 rw [show (x.Row.Table==(0:Int)&&(x.Row.Seq==(0:Int)&&true))=rz x.Row from rfl]
 have b0:(x.Kind==(0:Int))=decide (x.Kind=0):=beqd _ _
 have b1:(x.Kind==(1:Int))=decide (x.Kind=1):=beqd _ _
 have b2:(x.Kind==(2:Int))=decide (x.Kind=2):=beqd _ _
 have b3:(x.Kind==(3:Int))=decide (x.Kind=3):=beqd _ _
 have b4:(x.Kind==(4:Int))=decide (x.Kind=4):=beqd _ _
 by_cases h0:x.Kind=0
 ·rw [b0]
  simp only [h0,decide_true,cond_true,if_true]
  rw [show (Int.ofNat x.Args.length==(0:Int))=(x.Args.length==0) from zr9 _ 0]
  unfold zzp
  match hl:x.Args with
  | []=>cases decide (x.Row.Table≥1) <;>cases decide (x.Row.Seq≥1) <;>cases plA x <;>rfl
  | u::l=>cases decide (x.Row.Table≥1) <;>cases decide (x.Row.Seq≥1) <;>cases plA x <;>cases zmO V (u::l) <;>rfl
 rw [b0]
 simp only [h0,decide_false,cond_false,if_false]
 cases hA:zmO V x.Args with
 | false=>rw [hs2,hA]; cases rz x.Row <;>rfl
 | true=>
 rw [hA,cond_true] at hs2
 have hy:getR s=x:=by rw [hs2]; rfl
 have hy2:isL s=false:=by rw [hs2]; rfl
 rw [hy2]
 generalize getR s=y at hy ⊢
 subst hy
 cases rz y.Row with
 | false=>rfl
 | true=>
 simp only [Bool.not_true,cond_false,cond_true,isL,getR,Bool.true_and,Atom.eta,hP,hF,b1,b2,b3,b4]
 by_cases h1:y.Kind=1
 ·simp only [h1,decide_true,cond_true,if_true]
  match hl:y.Args with
  | []=>cases plA y <;>rfl
  | [u]=>cases plA y <;>rfl
  | [u,v]=>
   have e:=hE u (by rw [hl]; simp) v
   simp only [List.getD,List.length_cons,List.length_nil,Int.toNat_zero,List.getElem?_cons_zero,List.getElem?_cons_succ,Option.getD,show Int.toNat 1=1 from rfl,zIc]
   simp only [e]
   generalize decide (u=v)=E
   cases plA y <;>rfl
  | u::v::w::l=>
   have e:((Int.ofNat (u::v::w::l).length)==(2:Int))=false:=by rw [beq_eq_false_iff_ne]; simp; omega
   simp only [e]
   cases plA y <;>rfl
 simp only [h1,decide_false,cond_false,if_false]
 by_cases h2:y.Kind=2
 ·simp only [h2,decide_true,cond_true,if_true]
  match hl:y.Args with
  | []=>cases plA y <;>rfl
  | [u]=>
   have e:=hC u (by rw [hl]; simp)
   have eV:V u=true:=by
    rw [hl] at hA
    unfold zmO at hA
    simp at hA
    exact hA.1
   simp only [List.getD,List.length_cons,List.length_nil,Int.toNat_zero,List.getElem?_cons_zero,Option.getD,zxf,zBw,e,hV u eV]
   match u with
   | []=>cases plA y <;>rfl
   | [t]=>
    have e1:hasC [t]=(t.Factors.length==0):=by simp [hasC]
    have e2:isC [t]=(t.Factors.length==0):=rfl
    rw [e1,e2]
    cases plA y <;>cases (t.Factors.length==0) <;>cases isU [t] <;>rfl
   | t::s::r=>
    simp only [len2]
    cases plA y <;>rfl
  | u::v::l=>
   simp only [len2]
   cases plA y <;>rfl
 simp only [h2,decide_false,cond_false,if_false]
 by_cases h3:y.Kind=3
 ·simp only [h3,decide_true,cond_true,if_true]
  match hl:y.Args with
  | []=>cases plA y <;>rfl
  | [u]=>
   have e:=hC u (by rw [hl]; simp)
   simp only [List.getD,List.length_cons,List.length_nil,Int.toNat_zero,List.getElem?_cons_zero,Option.getD,zxf]
   simp only [e]
   cases plA y <;>cases hasC u <;>rfl
  | u::v::l=>
   simp only [len2]
   cases plA y <;>rfl
 simp only [h3,decide_false,cond_false,if_false]
 by_cases h4:y.Kind=4
 ·have e10:decide (Int.ofNat y.Items.length>(1024:Int))=false:=by simp; omega
  rw [hS _ (by omega)]
  rw [e10]
  simp only [h4,decide_true,cond_true,if_true,cond_false]
  rw [show (Int.ofNat y.Args.length != (0:Int))= !(y.Args.length==0) from congrArg not (zr9 y.Args.length 0),show (Int.ofNat y.Items.length==(0:Int))=(y.Items.length==0) from zr9 y.Items.length 0]
  have e11:decide (0<y.Items.length)= !(y.Items.length==0):=by
   rw [beqn]
   by_cases h:y.Items.length=0
   ·simp [h]
   ·have:0<y.Items.length:=by omega
    simp [h,this]
  rw [e11]
  cases (y.Args.length==0) <;>cases (y.Items.length==0) <;>cases fitK y.Func y.Items y.Op y.Bound <;>cases zus V y.Items <;>cases srtW y.Items <;>rfl
 simp only [h4,decide_false,cond_false,if_false]
end
section
variable (V:List Term→Bool) (vat:Atom→Bool)
theorem V_9 (g:Atom→Bool×Bool) (a t10:List Term) (t11 t12:Int) (t:Term) {d:Nat} (ht:zfm (zy d) t.Factors) (hd:d≤99) (hg:∀ f∈t.Factors,g f.Atom=(true,vat f.Atom)) (n:Nat) (hn:t.Factors.length<n):
  zoN g n a t10 t11 t12 t.Factors t.Factors.length 0 t=(true,bif okF vat t.Factors then .inr (a,t10,t11,t12) else .inl false):=by
 have hl:=ht.1
 exact zdK (W:=zk1 g) (z:=.inl default) t.Factors.length (fun k=>(a,(),t10,t11,t12,t.Factors,(t.Factors.length:Int),(k:Int),())) (fun _=>(t,())) (chkF vat t.Factors) (.inl false) (.inr (a,t10,t11,t12))
  (fun k hk H K D=>by
   show (ziz g a t10 t11 t12 t.Factors t.Factors.length k t).ev H K D=_
   unfold ziz chkF
   have hgt:decide ((k:Int)>0)= !decide (k=0):=by
    by_cases h:k=0
    ·subst h; rfl
    ·have:0<k:=by omega
     simp [h,this]
   simp only [Atom.eta,Wy.ev_i,Wy.ev_k,Wy.ev_h,Wy.ev_bn,Wy.ev_d,tT,hk,zIh,hg _ (zH hk),hgt]
   rw [zbb (by omega)]
   have e1:decide ((t.Factors.getD k default).Exp<1)= !decide (1≤(t.Factors.getD k default).Exp):=by
    by_cases h:1≤(t.Factors.getD k default).Exp
    ·have:¬ (t.Factors.getD k default).Exp<1:=by omega
     simp only [h,this,decide_true,decide_false,Bool.not_true]
    ·have:(t.Factors.getD k default).Exp<1:=by omega
     simp only [h,this,decide_true,decide_false,Bool.not_false]
   rw [e1]
   generalize decide (1≤(t.Factors.getD k default).Exp)=E1
   generalize ((t.Factors.getD k default).Exp != 1)=E2
   generalize ((t.Factors.getD k default).Atom.Kind==3||(t.Factors.getD k default).Atom.Kind==4)=E3
   by_cases h0:k=0
   ·simp only [h0,decide_true,Bool.not_true,cond_false,Bool.true_or,Bool.and_true]
    cases E1 <;>cases E2 <;>cases E3 <;>cases vat (t.Factors.getD 0 default).Atom <;>rfl
   ·have hp:IntKind.i64.wrap ((k:Int) - 1)=((k - 1:Nat):Int):=zrB (by omega) (by omega)
    have hk':k - 1<t.Factors.length:=by omega
    have hfx:zc8 (zy d) (t.Factors.getD (k - 1) default).Atom:=ht.2 _ (zH hk')
    have e2:∀ z:Int,decide (z≥0)= !decide (z<0):=fun z=>by
     by_cases h:z<0
     ·have:¬ z≥0:=by omega
      simp [h,this]
     ·have:z≥0:=by omega
      simp [h,this]
    simp only [h0,hp,tT,hk',zpV hfx hd,e2,Bool.false_or]
    generalize decide (cmpT (zds (t.Factors.getD (k - 1) default).Atom) (zds (t.Factors.getD k default).Atom)<0)=E4
    cases E1 <;>cases E2 <;>cases E3 <;>cases E4 <;>cases vat (t.Factors.getD k default).Atom <;>rfl)
  (fun H K D=>by
   show (ziz g a t10 t11 t12 t.Factors t.Factors.length t.Factors.length t).ev H K D=_
   unfold ziz
   simp only [Wy.ev_i,Wy.ev_k,tT,Nat.lt_irrefl]) n hn
theorem V_4 (g:Atom→Bool×Bool) (a:List Term) {d:Nat} (h:zy (d+1) a) (hd:d≤99) (hg:∀ t∈a,∀ f∈t.Factors,g f.Atom=(true,vat f.Atom)) (n:Nat) (hn:a.length<n):
  zt5 g n a a a.length 0=(true,bif allN (chkT vat a) a.length 0 then .inr () else .inl false):=by
 have hl:=h.1
 exact zdK (W:=zkV g) (z:=.inl default) a.length (fun k=>(a,a,(a.length:Int),(k:Int),())) (fun _=>()) (chkT vat a) (.inl false) (.inr ())
  (fun k hk H K D=>by
   show (zir g a a a.length k).ev H K D=_
   unfold zir chkT
   have ht:=h.2 _ (zH hk)
   have hgt:decide ((k:Int)>0)= !decide (k=0):=by
    by_cases h:k=0
    ·subst h; rfl
    ·have:0<k:=by omega
     simp [h,this]
   simp only [Atom.eta,Wy.ev_i,Wy.ev_k,Wy.ev_h,Wy.ev_bn,Wy.ev_d,tT,hk,hgt]
   rw [V_9 vat g a a a.length k _ ht hd (hg _ (zH hk)) _ (by omega)]
   have e1:decide ((a.getD k default).Coeff<1)= !decide (1≤(a.getD k default).Coeff):=by
    by_cases h:1≤(a.getD k default).Coeff
    ·have:¬ (a.getD k default).Coeff<1:=by omega
     simp only [h,this,decide_true,decide_false,Bool.not_true]
    ·have:(a.getD k default).Coeff<1:=by omega
     simp only [h,this,decide_true,decide_false,Bool.not_false]
   have e3:decide ((a.getD k default).Coeff>1152921504606846976)= !decide ((a.getD k default).Coeff≤1152921504606846976):=by
    by_cases h:(a.getD k default).Coeff≤1152921504606846976
    ·have:¬ (a.getD k default).Coeff>1152921504606846976:=by omega
     simp only [h,this,decide_true,decide_false,Bool.not_true]
    ·have:(a.getD k default).Coeff>1152921504606846976:=by omega
     simp only [h,this,decide_true,decide_false,Bool.not_false]
   rw [e1,e3]
   generalize decide (1≤(a.getD k default).Coeff)=E1
   generalize decide ((a.getD k default).Coeff≤1152921504606846976)=E2
   by_cases h0:k=0
   ·subst h0
    simp only [decide_true,Bool.not_true,cond_false,Bool.true_or,Bool.and_true]
    cases okF vat (a.getD 0 default).Factors <;>cases E1 <;>cases E2 <;>try rfl
   ·have hp:IntKind.i64.wrap ((k:Int) - 1)=((k - 1:Nat):Int):=zrB (by omega) (by omega)
    have hk':k - 1<a.length:=by omega
    have hfx:zfm (zy d) (a.getD (k - 1) default).Factors:=h.2 _ (zH hk')
    have e2:∀ z:Int,decide (z≥0)= !decide (z<0):=fun z=>by
     by_cases h:z<0
     ·have:¬ z≥0:=by omega
      simp [h,this]
     ·have:z≥0:=by omega
      simp [h,this]
    simp only [h0,hp,tT,hk',zpW hfx hd,e2,Bool.false_or]
    generalize decide (cmpL (zbo (a.getD (k - 1) default).Factors) (zbo (a.getD k default).Factors)<0)=E4
    cases okF vat (a.getD k default).Factors <;>cases E1 <;>cases E2 <;>cases E4 <;>try rfl
    simp only [cond_true,cond_false,Bool.not_true,isL,getR,Bool.and_self]
    rw [zbb (by omega),decide_eq_false (show ¬ ((k - 1:Nat):Int)<0 by omega)]; rfl)
  (fun H K D=>by
   show (zir g a a a.length a.length).ev H K D=_
   unfold zir
   simp only [Wy.ev_i,Wy.ev_k,tT,Nat.lt_irrefl]) n hn
theorem zM1 (g:Atom→Bool×Bool) (a:List Term) {d:Nat} (h:zy (d+1) a) (hd:d≤99) (hs:zJ a≤4611686018427387904) (hg:∀ t∈a,∀ f∈t.Factors,g f.Atom=(true,vat f.Atom)):zkw g a=(true,vAnn vat a):=by
 unfold zkw zpu vAnn
 have:=V_4 vat g a h hd hg (a.length+a.length+(Int.ofNat a.length).toNat +Int.toNat (0:Int)+(1:Nat)) (by omega)
 rw [show Int.ofNat a.length=(a.length:Int) from rfl] at *
 simp only [Wy.fin_i,Wy.fin_k,Wy.fin_bn,zIW h (by omega) hs,this,cond_true]
 cases zhL a <;>cases allN (chkT vat a) a.length 0 <;>rfl
theorem zQ9 (g:Atom→Bool×Bool) (a:List Term) (i:Int) (t:Term) {d:Nat} (ht:zfm (zy d) t.Factors) (hd:d≤99) (hg:∀ f∈t.Factors,g f.Atom=(true,vat f.Atom)) (hk:∀ x,vat x=true→0≤x.Kind∧x.Kind≤4) (n:Nat) (hn:t.Factors.length<n):
  zsL g n a i 0 t=(true,bif okF vat t.Factors then .inr (a,i) else .inl false):=by
 have hl:=ht.1
 exact zdK (W:=zzh g) (z:=.inl default) t.Factors.length (fun k=>(a,i,(),(k:Int),())) (fun _=>(t,())) (chkF vat t.Factors) (.inl false) (.inr (a,i))
  (fun k hk1 H K D=>by
   show (zlu g a i k t).ev H K D=_
   unfold zlu chkF
   have hgt:decide ((k:Int)>0)= !decide (k=0):=by
    by_cases h:k=0
    ·subst h; rfl
    ·have:0<k:=by omega
     simp [h,this]
   simp only [Atom.eta,Wy.ev_i,Wy.ev_k,Wy.ev_h,Wy.ev_bn,Wy.ev_d,tT,hk1,hg _ (zH hk1),hgt]
   rw [zbb (by omega)]
   have hk2:=hk (t.Factors.getD k default).Atom
   have e1:decide ((t.Factors.getD k default).Exp<1)= !decide (1≤(t.Factors.getD k default).Exp):=by
    by_cases h:1≤(t.Factors.getD k default).Exp
    ·have:¬ (t.Factors.getD k default).Exp<1:=by omega
     simp only [h,this,decide_true,decide_false,Bool.not_true]
    ·have:(t.Factors.getD k default).Exp<1:=by omega
     simp only [h,this,decide_true,decide_false,Bool.not_false]
   rw [e1]
   by_cases hx1:1≤(t.Factors.getD k default).Exp
   rotate_left
   ·simp only [hx1,decide_false,Bool.not_false,cond_true,Bool.false_and,cond_false]
   cases hv:vat (t.Factors.getD k default).Atom with
   | false=>
    rw [Bool.and_false]
    cases decide (1≤(t.Factors.getD k default).Exp) <;>cases decide ((t.Factors.getD k default).Exp>1) <;>cases decide ((t.Factors.getD k default).Atom.Kind≥3) <;>rfl
   | true=>
   obtain ⟨k1,k2⟩:=hk2 hv
   have e5:((t.Factors.getD k default).Atom.Kind==3||(t.Factors.getD k default).Atom.Kind==4)=decide ((t.Factors.getD k default).Atom.Kind≥3):=by
    rw [beqd,beqd, ← Bool.decide_or]
    congr 1
    apply propext; omega
   have e6:((t.Factors.getD k default).Exp != 1)=decide ((t.Factors.getD k default).Exp>1):=by
    rw [bne0, ← decide_not]
    congr 1
    apply propext; omega
   rw [e5,e6]
   simp only [hx1,decide_true,Bool.not_true,cond_false,Bool.true_and]
   generalize decide ((t.Factors.getD k default).Exp>1)=E2
   generalize decide ((t.Factors.getD k default).Atom.Kind≥3)=E3
   by_cases h0:k=0
   ·simp only [h0,decide_true,Bool.not_true,cond_false,Bool.true_or,Bool.and_true]
    cases E2 <;>cases E3 <;>rfl
   ·have hp:IntKind.i64.wrap ((k:Int) - 1)=((k - 1:Nat):Int):=zrB (by omega) (by omega)
    have hk':k - 1<t.Factors.length:=by omega
    have hfx:zc8 (zy d) (t.Factors.getD (k - 1) default).Atom:=ht.2 _ (zH hk')
    have e2:∀ z:Int,decide (z≥0)= !decide (z<0):=fun z=>by
     by_cases h:z<0
     ·have:¬ z≥0:=by omega
      simp [h,this]
     ·have:z≥0:=by omega
      simp [h,this]
    simp only [h0,hp,tT,hk',zpr hfx hd,e2,Bool.false_or]
    generalize decide (cmpT (zds (t.Factors.getD (k - 1) default).Atom) (zds (t.Factors.getD k default).Atom)<0)=E4
    cases E2 <;>cases E3 <;>cases E4 <;>rfl)
  (fun H K D=>by
   show (zlu g a i t.Factors.length t).ev H K D=_
   unfold zlu
   simp only [Wy.ev_i,Wy.ev_k,tT,Nat.lt_irrefl]) n hn
theorem RV_4 (g:Atom→Bool×Bool) (a:List Term) {d:Nat} (h:zy (d+1) a) (hd:d≤99) (hg:∀ t∈a,∀ f∈t.Factors,g f.Atom=(true,vat f.Atom)) (hk:∀ x,vat x=true→0≤x.Kind∧x.Kind≤4) (n:Nat) (hn:a.length<n):
  zAW g n a 0=(true,bif allN (chkT vat a) a.length 0 then .inr () else .inl false):=by
 have hl:=h.1
 exact zdK (W:=zAy g) (z:=.inl default) a.length (fun k=>(a,(k:Int),())) (fun _=>()) (chkT vat a) (.inl false) (.inr ())
  (fun k hk1 H K D=>by
   show (zmN g a k).ev H K D=_
   unfold zmN chkT
   have ht:=h.2 _ (zH hk1)
   have hgt:decide ((k:Int)>0)= !decide (k=0):=by
    by_cases h:k=0
    ·subst h; rfl
    ·have:0<k:=by omega
     simp [h,this]
   simp only [Atom.eta,Wy.ev_i,Wy.ev_k,Wy.ev_h,Wy.ev_bn,Wy.ev_d,tT,hk1,hgt]
   rw [zQ9 vat g a k _ ht hd (hg _ (zH hk1)) hk _ (by omega)]
   have e1:decide ((a.getD k default).Coeff<1)= !decide (1≤(a.getD k default).Coeff):=by
    by_cases h:1≤(a.getD k default).Coeff
    ·have:¬ (a.getD k default).Coeff<1:=by omega
     simp only [h,this,decide_true,decide_false,Bool.not_true]
    ·have:(a.getD k default).Coeff<1:=by omega
     simp only [h,this,decide_true,decide_false,Bool.not_false]
   have e3:decide ((a.getD k default).Coeff>1152921504606846976)= !decide ((a.getD k default).Coeff≤1152921504606846976):=by
    by_cases h:(a.getD k default).Coeff≤1152921504606846976
    ·have:¬ (a.getD k default).Coeff>1152921504606846976:=by omega
     simp only [h,this,decide_true,decide_false,Bool.not_true]
    ·have:(a.getD k default).Coeff>1152921504606846976:=by omega
     simp only [h,this,decide_true,decide_false,Bool.not_false]
   rw [e1,e3]
   generalize decide (1≤(a.getD k default).Coeff)=E1
   generalize decide ((a.getD k default).Coeff≤1152921504606846976)=E2
   by_cases h0:k=0
   ·subst h0
    simp only [decide_true,Bool.not_true,cond_false,Bool.true_or,Bool.and_true]
    cases okF vat (a.getD 0 default).Factors <;>cases E1 <;>cases E2 <;>try rfl
   ·have hp:IntKind.i64.wrap ((k:Int) - 1)=((k - 1:Nat):Int):=zrB (by omega) (by omega)
    have hk':k - 1<a.length:=by omega
    have hfx:zfm (zy d) (a.getD (k - 1) default).Factors:=h.2 _ (zH hk')
    have e2:∀ z:Int,decide (z≥0)= !decide (z<0):=fun z=>by
     by_cases h:z<0
     ·have:¬ z≥0:=by omega
      simp [h,this]
     ·have:z≥0:=by omega
      simp [h,this]
    simp only [h0,hp,tT,hk',znb hfx hd,e2,Bool.false_or]
    generalize decide (cmpL (zbo (a.getD (k - 1) default).Factors) (zbo (a.getD k default).Factors)<0)=E4
    cases okF vat (a.getD k default).Factors <;>cases E1 <;>cases E2 <;>cases E4 <;>try rfl
    simp only [cond_true,cond_false,Bool.not_true,isL,getR,Bool.and_self]
    rw [zbb (by omega),decide_eq_false (show ¬ ((k - 1:Nat):Int)<0 by omega)]; rfl)
  (fun H K D=>by
   show (zmN g a a.length).ev H K D=_
   unfold zmN
   simp only [Wy.ev_i,Wy.ev_k,tT,Nat.lt_irrefl]) n hn
theorem zLF (g:Atom→Bool×Bool) (a:List Term) {d:Nat} (h:zy (d+1) a) (hd:d≤99) (hs:zJ a≤4611686018427387904) (hg:zhL a=true→∀ t∈a,∀ f∈t.Factors,g f.Atom=(true,vat f.Atom)) (hk:∀ x,vat x=true→0≤x.Kind∧x.Kind≤4):ztC g a=(true,vAnn vat a):=by
 unfold ztC zBR vAnn
 rw [Wy.fin_bn,zMp h (by omega) hs]
 cases hw:zhL a with
 | false=>rfl
 | true=>
  have:=RV_4 vat g a h hd (hg hw) hk ((a.length+Int.toNat (0:Int)+(1:Nat))+szTs a) (by omega)
  simp only [Wy.fin_i,Wy.fin_k,Wy.fin_bn,this,cond_true]
  cases allN (chkT vat a) a.length 0 <;>rfl
end
theorem zGK {l:List (List Term)} {a:List Term} (h:a∈l):zJ a≤zes l:=by
 induction l with
 | nil=>cases h
 | cons b r ih=>
  rw [zdX]
  rcases List.mem_cons.1 h with rfl | h
  ·omega
  ·have:=ih h; omega
theorem zFl {l:List Weighted} {w:Weighted} (h:w∈l):zJ w.Ann≤zc9 l:=by
 induction l with
 | nil=>cases h
 | cons b r ih=>
  rw [zic]
  rcases List.mem_cons.1 h with rfl | h
  ·omega
  ·have:=ih h; omega
theorem zFL {m:Nat} {a:List Term} (h:zbP m a=true):isB a=isU a:=by
 cases m with
 | zero=>cases h
 | succ m=>
 match a with
 | []=>rfl
 | [t]=>
  simp only [zbP,vAnn,Bool.and_eq_true] at h
  have h1:=zd1.1 h.2 0 (by omega) (by simp)
  simp only [chkT,Bool.and_eq_true] at h1
  have h2:=h1.2
  obtain ⟨c,fs⟩:=t
  match fs with
  | []=>rfl
  | [f]=>
   have h3:=zd1.1 h2 0 (by omega) (by simp)
   simp only [chkF,Bool.and_eq_true] at h3
   have h4:=zu0 h3.2
   simp only [List.getD_cons_zero] at h4
   show (c==1&&(f.Exp==1&&decide (2≤f.Atom.Kind)))=(c==1&&(f.Exp==1&&(f.Atom.Kind==2||f.Atom.Kind==3||f.Atom.Kind==4)))
   have e:decide (2≤f.Atom.Kind)=(f.Atom.Kind==2||f.Atom.Kind==3||f.Atom.Kind==4):=by
    rw [beqd,beqd,beqd, ← Bool.decide_or, ← Bool.decide_or]
    congr 1
    apply propext; omega
   rw [e]
  | f::f'::r=>rfl
 | t::u::r=>rfl
theorem zRr (g) (l:List (List Term)):zb5 g l=IG (fun (_:Unit) x=>g x) (l.length+(Int.ofNat l.length).toNat +Int.toNat (0:Int)+(1:Nat)) () l:=rfl
theorem zRk (g) (l:List Weighted):zcp g l=IG (fun (_:Unit) x=>g x) (l.length+(Int.ofNat l.length).toNat +Int.toNat (0:Int)+(1:Nat)) () l:=rfl
theorem zBs:∀ n,
  (∀ d m a,zy d a→10*d≤n→d≤m→d≤100→zJ a≤4611686018427387904→ziv n a=(true,zbP m a))∧
  (∀ d m x,zc8 (zy d) x→10*d+9≤n→d≤m→d≤99→zeq x≤4611686018427387904→zkp n x=(true,zeF (zbP m) x))∧
  (∀ d m a,zy d a→10*d+6≤n→d≤m→d≤99→zJ a≤4611686018427387904→zd7 n a=(true, !(zbP m a&& !(a.length==0))))∧
  (∀ d m (w:Weighted),zy d w.Ann→10*d+6≤n→d≤m→d≤99→zJ w.Ann≤4611686018427387904→zd6 n w=(true, !(zbP m w.Ann&& !(w.Ann.length==0))))∧
  (∀ d m (l:List (List Term)),l.length≤1000000→(∀ a∈l,zy d a∧zJ a≤4611686018427387904)→10*d+7≤n→d≤m→d≤99→zb6 n l=(true,ixf (fun a=> !(zbP m a&& !(a.length==0))) l 0))∧
  (∀ d m (l:List (List Term)),l.length≤1000000→(∀ a∈l,zy d a∧zJ a≤4611686018427387904)→10*d+8≤n→d≤m→d≤99→zbW n l=(true, !zmO (zbP m) l))∧
  (∀ d m (l:List Weighted),l.length≤1000000→(∀ a∈l,zy d a.Ann∧zJ a.Ann≤4611686018427387904)→10*d+7≤n→d≤m→d≤99→zcn n l=(true,ixf (fun a=> !(zbP m a.Ann&& !(a.Ann.length==0))) l 0))∧
  (∀ d m (l:List Weighted),l.length≤1000000→(∀ a∈l,zy d a.Ann∧zJ a.Ann≤4611686018427387904)→10*d+8≤n→d≤m→d≤99→zcc n l=(true, !zus (zbP m) l))
 | 0=>by
  refine ⟨?_, ?_, ?_, ?_, ?_, ?_, ?_, ?_⟩
  ·intro d m a h hd; have:d=0:=by omega
   subst this; exact h.elim
  all_goals (intros; omega)
 | n+1=>by
  obtain ⟨h1,h2,h3,h4,h5,h6,h7,h8⟩:=zBs n
  refine ⟨?_, ?_, ?_, ?_, ?_, ?_, ?_, ?_⟩
  ·intro d m a h hd hm hd2 hs
   cases d with
   | zero=>exact h.elim
   | succ d=>
    cases m with
    | zero=>omega
    | succ m=>
     rw [zCw]
     exact zM1 _ _ a h (by omega) hs fun t ht f hf=>h2 d m f.Atom ((h.2 t ht).2 f hf) (by omega) (by omega) (by omega) (by
      have:=zIr ht hf; rw [zif]; omega)
  ·intro d m x h hd hm hd2 hs
   rw [zzD]
   rw [zif] at hs
   exact zID _ _ _ _ _ x h hd2 (h6 d m _ h.1.1 (fun a ha=>⟨h.2.1 a ha,by have:=zGK ha; omega⟩) (by omega) hm hd2)
    (h8 d m _ h.1.2.1 (fun a ha=>⟨(h.2.2 a ha).2,by have:=zFl ha; omega⟩) (by omega) hm hd2)
  ·intro d m a h hd hm hd2 hs
   rw [zwA]
   unfold ziK zks
   rw [Wy.fin_bn,h1 d m a h (by omega) hm (by omega) hs]
   simp only [cond_true,Wy.fin_i,Wy.fin_k,show (Int.ofNat a.length==(0:Int))=(a.length==0) from zr9 a.length 0]
   cases zbP m a <;>simp
  ·intro d m a h hd hm hd2 hs
   rw [zwJ]
   unfold ziJ zkr
   rw [Wy.fin_bn,h1 d m a.Ann h (by omega) hm (by omega) hs]
   simp only [cond_true,Wy.fin_i,Wy.fin_k,show (Int.ofNat a.Ann.length==(0:Int))=(a.Ann.length==0) from zr9 a.Ann.length 0]
   cases zbP m a.Ann <;>simp
  ·intro d m l hl h hd hm hd2
   rw [zki,zRr]
   exact zHC _ _ _ _ _ (by omega) (fun x hx=>h3 d m x (h x hx).1 (by omega) hm hd2 (h x hx).2) (by omega)
  ·intro d m l hl h hd hm hd2
   rw [zjC]
   unfold zbS zcA
   rw [zqe (h5 d m l hl h (by omega) hm hd2)]
   simp [zmO,List.all_eq_not_any_not]
  ·intro d m l hl h hd hm hd2
   rw [zlm,zRk]
   exact zHC _ _ _ _ _ (by omega) (fun x hx=>h4 d m x (h x hx).1 (by omega) hm hd2 (h x hx).2) (by omega)
  ·intro d m l hl h hd hm hd2
   rw [zkE]
   unfold zcg zc0
   rw [zqe (h7 d m l hl h (by omega) hm hd2)]
   simp [zus,List.all_eq_not_any_not]
theorem zLK {a:List Term} (h:zhL a=true) {t:Term} (ht:t∈a) {f:Factor} (hf:f∈t.Factors):f.Atom.Items.length≤1024∧f.Exp≤64∧t.Factors.length≤64:=by
 simp only [zhL,Bool.and_eq_true,List.all_eq_true] at h
 have:=h.2 t ht
 simp only [withF,Bool.not_eq_true',Bool.or_eq_false_iff,decide_eq_false_iff_not,List.any_eq_false] at this
 have h2:=this.2 f hf
 simp at h2
 omega
theorem zHT:∀ n,
  (∀ d m a,zy d a→3*d≤n→d≤m→d≤100→zJ a≤4611686018427387904→ztD n a=(true,zbP m a))∧
  (∀ d m x,zc8 (zy d) x→3*d+2≤n→d≤m→d≤99→zeq x≤4611686018427387904→x.Items.length≤1024→zsH n x=(true,zeF (zbP m) x))
 | 0=>by
  refine ⟨?_, ?_⟩
  ·intro d m a h hd; have:d=0:=by omega
   subst this; exact h.elim
  ·intros; omega
 | n+1=>by
  obtain ⟨h1,h2⟩:=zHT n
  refine ⟨?_, ?_⟩
  ·intro d m a h hd hm hd2 hs
   cases d with
   | zero=>exact h.elim
   | succ d=>
    cases m with
    | zero=>omega
    | succ m=>
     rw [zGR]
     exact zLF _ _ a h (by omega) hs (fun hw t ht f hf=>h2 d m f.Atom ((h.2 t ht).2 f hf) (by omega) (by omega) (by omega) (by
      have:=zIr ht hf; rw [zif]; omega) (zLK hw ht hf).1) fun x hx=>zu0 hx
  ·intro d m x h hd hm hd2 hs h10
   rw [zDF]
   rw [zif] at hs
   exact zHA _ _ x h hd2 h10 (fun a ha=>zFL ha) (fun a ha=>h1 d m a (h.2.1 a ha) (by omega) hm (by omega) (by have:=zGK ha; omega))
    fun a ha=>h1 d m a.Ann (h.2.2 a ha).2 (by omega) hm (by omega) (by have:=zFl ha; omega)
def zbD (a:List Term):Bool:=zbP 100 a
theorem zNC {d:Nat} {a:List Term} (h:zy d a) (hd:d≤100) (hs:zJ a≤4611686018427387904):zbK a=(true,zbD a):=(zBs 1000).1 d 100 a h (by omega) hd hd hs
theorem zM6 {d:Nat} {a:List Term} (h:zy d a) (hd:d≤100) (hs:zJ a≤4611686018427387904):zmj a=(true,zbD a):=(zHT 1000).1 d 100 a h (by omega) hd hd hs
def zGo (a:List Term):Wy0 (List Term×Int):=.bn (zzE a) fun r0=>.i (!r0) (.k ([],6)) (.k (a,0))
def zq8 (a:List Term):Bool×(List Term×Int):=(zGo a).fin default
def zFw (x_:Atom):Wy0 (List Term):=.k [TermOf.mk 1 [FactorOf.mk (Atom.mk x_.Kind x_.Row x_.Args x_.Func x_.Items x_.Op x_.Bound) 1]]
def zr4 (x_:Atom):Bool×List Term:=(zFw x_).fin default
def zLy:Wy0 (List Term):=.k [TermOf.mk 1 []]
def zJh:Bool×List Term:=(zLy).fin default
end Go.Proofs.YtnolcogncjijpaaGreatDoor
end
