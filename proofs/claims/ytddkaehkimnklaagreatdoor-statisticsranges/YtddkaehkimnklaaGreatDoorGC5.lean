/- Texts of this claim, joined (the program, its functions in plain words, and what they compute). -/
import Derived.Test.YtddkaehkimnklaaGreatDoorGC1
import Derived.Test.YtddkaehkimnklaaGreatDoorGA3
import Derived.Test.YtddkaehkimnklaaGreatDoorGC4
import Derived.Test.YtddkaehkimnklaaGreatDoorGB1
set_option autoImplicit false
set_option linter.unusedVariables false
set_option linter.unusedSectionVars false
set_option linter.unusedSimpArgs false
set_option maxRecDepth 1000000
set_option maxHeartbeats 0
noncomputable section
namespace Go.Proofs.YtddkaehkimnklaaGreatDoor
open Go Go.Ab
abbrev ttTlaw37StatisticsRanges0:=Int×Unit×Int×Unit
abbrev ttTlaw37StatisticsRanges1:=List Int×Int×List Value×List Value×Unit×Unit
def ziP (column:Int) (n_:Int) (s:Stats):Wy ttTlaw37StatisticsRanges0 (Stats×Unit) (Bool):=.bn (zd0 s) fun r1=>.i (!r1) (.k true) (.i (decide (n_≤s.Rows)) (.i (decide (column<0)) (.k true) (.i (decide (column≥Int.ofNat s.Columns.length)) (.k true) (.bn (zgP s column [] []) fun r0=>.k (r0==1000)))) (.k false))
def zg1 (x:ttTlaw37StatisticsRanges0) (y:Stats×Unit):Wy ttTlaw37StatisticsRanges0 (Stats×Unit) (Bool):=ziP x.1 x.2.2.1 y.1
def zmu (n:Nat) (column:Int) (n_:Int) (s:Stats):Bool×Bool:=zY (zg1) default n (column,(),n_,()) (s,())
def zmd (r:Bool):LTree ty:=.done .ret [.lit (.bool r)] []
def zmB:LL ty ttTlaw37StatisticsRanges0:=za (lInt .i64) (za (zc8 356 0) (za (lInt .i64) zG))
def zmT:BL ty (Stats×Unit):=bBox (zgF (fun x=>(⟨x.1,x.2.1,x.2.2.1⟩:Stats)) (fun x=>(x.Table,x.Rows,x.Columns,())) (fun _=>rfl) (za (lInt .i64) (za (lInt .i64) (za (lSl 43) zG)))) false (bNil)
def ziU (columns:List Int) (column:Int) (low:List Value) (high:List Value) (s:Stats):Wy ttTlaw37StatisticsRanges1 (Stats×Unit) (Bool):=.bn (zhL s columns) fun r8=>.bn (zgP s column low high) fun r7=>.bn (zkK s columns) fun r6=>.i (r8 != r6) (.k false) (.bn (zoS s column low high) fun r5=>.i (r7 != r5) (.k false) (.i (decide (r7<0)) (.k false) (.i (decide (r7>1000)) (.k false) (.bn (zmu 1 column r8 s) fun r4=>.k r4))))
def zg0 (x:ttTlaw37StatisticsRanges1) (y:Stats×Unit):Wy ttTlaw37StatisticsRanges1 (Stats×Unit) (Bool):=ziU x.1 x.2.1 x.2.2.1 x.2.2.2.1 y.1
def zmx (n:Nat) (columns:List Int) (column:Int) (low:List Value) (high:List Value) (s:Stats):Bool×Bool:=zY (zg0) default n (columns,column,low,high,(),()) (s,())
def zma (r:Bool):LTree ty:=.done .ret [.lit (.bool r)] []
def zmX:LL ty ttTlaw37StatisticsRanges1:=za (lSl 3) (za (lInt .i64) (za (lSl 40) (za (lSl 40) (za (zc8 356 0) zG))))
def zmr:BL ty (Stats×Unit):=bBox (zgF (fun x=>(⟨x.1,x.2.1,x.2.2.1⟩:Stats)) (fun x=>(x.Table,x.Rows,x.Columns,())) (fun _=>rfl) (za (lInt .i64) (za (lInt .i64) (za (lSl 43) zG)))) false (bNil)
def zi4 (columns:List Int) (column:Int) (low:List Value) (high:List Value) (s:Stats):Wy ttTlaw37StatisticsRanges1 (Stats×Unit) (Bool):=.bn (zss s) fun r17=>.i (!r17) (.k true) (.i (decide (Int.ofNat columns.length>8)) (.k true) (.bn (zg9 low 3) fun r16=>.i (!r16) (.k true) (.bn (zg9 high 3) fun r15=>.i (!r15) (.k true) (.bn (zmx 1 columns column low high s) fun r14=>.k r14))))
def zgY (x:ttTlaw37StatisticsRanges1) (y:Stats×Unit):Wy ttTlaw37StatisticsRanges1 (Stats×Unit) (Bool):=zi4 x.1 x.2.1 x.2.2.1 x.2.2.2.1 y.1
def zmO (n:Nat) (columns:List Int) (column:Int) (low:List Value) (high:List Value) (s:Stats):Bool×Bool:=zY (zgY) default n (columns,column,low,high,(),()) (s,())
def zl8 (r:Bool):LTree ty:=.done .ret [.lit (.bool r)] []
def zmD:LL ty ttTlaw37StatisticsRanges1:=za (lSl 3) (za (lInt .i64) (za (lSl 40) (za (lSl 40) (za (zc8 356 0) zG))))
def zmR:BL ty (Stats×Unit):=bBox (zgF (fun x=>(⟨x.1,x.2.1,x.2.2.1⟩:Stats)) (fun x=>(x.Table,x.Rows,x.Columns,())) (fun _=>rfl) (za (lInt .i64) (za (lInt .i64) (za (lSl 43) zG)))) false (bNil)
def zg2:Cx ty:=zFV base0 89 [(10,zuT),(15,zdC),(17,zxc),(27,zpl),(28,zm8),(29,zpL),(30,zrH),(31,zuC)] [] [(3,[(1,.keep),(2,.keep),(3,.keep),(4,.keep),(5,.keep)]),(5,[(1,.keep),(2,.keep),(3,.keep),(4,.keep),(5,.keep)]),(8,[(2,.keep),(5,.keep),(11,.keep)])] [(3,0,[(10,.keep)]),(5,0,[(10,.keep)]),(8,0,[(10,.keep)])] [] [] [(8,spW zmB zmT (zg1) default zmd fun x y=>(1)),(5,spW zmX zmr (zg0) default zma fun x y=>(1)),(3,spW zmD zmR (zgY) default zl8 fun x y=>(1))]
theorem ztg:zxD zg2 (jn (body Tryz.f9) 8):=zBj (id:=8) (V:=zmB) (B:=zmT) (W:=zg1) (z:=default) (tr:=zmd) (m:=fun x y=>(1))
theorem zs6:zxD zg2 (jn (body Tryz.f9) 5):=zBj (id:=5) (V:=zmX) (B:=zmr) (W:=zg0) (z:=default) (tr:=zma) (m:=fun x y=>(1))
theorem ztv:zxD zg2 (jn (body Tryz.f9) 3):=zBj (id:=3) (V:=zmD) (B:=zmR) (W:=zgY) (z:=default) (tr:=zl8) (m:=fun x y=>(1))
def zjo (s:Stats) (columns:List Int) (column:Int) (low:List Value) (high:List Value):Wy0 (Bool):=.bn (zmO 1 columns column low high s) fun r22=>.k r22
def zel (s:Stats) (columns:List Int) (column:Int) (low:List Value) (high:List Value):Bool×Bool:=(zjo s columns column low high).fin default
def ziB (r:Bool):ARes ty:=⟨[.pure (.lit (.bool r))],[]⟩
def zna:AL base0 (Stats×List Int×Int×List Value×List Value×Unit):=zf (zg (vAgg 30)) (zf (zg (vSl 3)) (zf (zg (vInt .i64)) (zf (zg (vSl 40)) (zf (zg (vSl 40)) aNil))))
def zig:Ab.Spec ty:=zl zna fun x=>((zel x.1 x.2.1 x.2.2.1 x.2.2.2.1 x.2.2.2.2.1).1,ziB (zel x.1 x.2.1 x.2.2.1 x.2.2.2.1 x.2.2.2.2.1).2)
theorem zrQ:Sound Tryz.prog base0 9 zig:=
 zt (cx':=zg2) zD zr2 zHQ (zHp ⟨zAB,zei.nodr,zB3.nodr,ztA.nodr,ztV.nodr,zwf.nodr,zyq.nodr,zAC.nodr,trivial⟩) Tryz.call9 Tryz.func9 (c:=body Tryz.f9) (by kernel_rfl) (zDx (l:=[]) (by kernel_rfl) trivial (js:=[jn (body Tryz.f9) 3,jn (body Tryz.f9) 5,jn (body Tryz.f9) 8]) (by kernel_rfl) ⟨ztv,zs6,ztg,trivial⟩) (sg:=⟨[.pure],[]⟩) (A:=zna) (res:=ziB) (W:=fun x=>zjo x.1 x.2.1 x.2.2.1 x.2.2.2.1 x.2.2.2.2.1) (z:=default)
def trV (v:Value):TT:=.l [.i v.Kind,.i v.Int,trB v.Text]
mutual
def zBH:Atom→TT
 | ⟨k,r,a,f,i,o,b⟩=>.l [.i k,.i r.Table,.i r.Seq,.l (zuE a),.i f,.l (zrO i),.i o,trV b]
def zym:Factor→TT
 | ⟨x,e⟩=>.l [zBH x,.i e]
def znq:List Factor→List TT
 | []=>[]
 | x::r=>zym x::znq r
def zB6:Term→TT
 | ⟨c,fs⟩=>.l [.l (znq fs),.i c]
def zvW:List Term→List TT
 | []=>[]
 | x::r=>zB6 x::zvW r
def zuE:List (List Term)→List TT
 | []=>[]
 | x::r=>.l (zvW x)::zuE r
def zBC:Weighted→TT
 | ⟨v,a⟩=>.l [trV v,.l (zvW a)]
def zrO:List Weighted→List TT
 | []=>[]
 | x::r=>zBC x::zrO r
end
theorem ztm:∀ a b:List UInt8,(a.map fun x=>TT.i (x.toNat:Int))=(b.map fun x=>TT.i (x.toNat:Int))→a=b
 | [],[]=>fun _=>rfl
 | [],_::_=>fun h=>by simp at h
 | _::_,[]=>fun h=>by simp at h
 | x::a,y::b=>fun h=>by
  simp only [List.map,List.cons.injEq,TT.i.injEq] at h
  rw [ztm a b h.2,UInt8.toNat_inj.1 (Int.ofNat.inj h.1)]
theorem zFI {a b:Value} (h:trV a=trV b):a=b:=by
 obtain ⟨k,n,s⟩:=a; obtain ⟨k',n',s'⟩:=b
 simp only [trV,trB,TT.l.injEq,List.cons.injEq,TT.i.injEq,and_true] at h
 obtain ⟨rfl,rfl,h⟩:=h
 have:=ztm _ _ h
 obtain ⟨⟨l⟩⟩:=s; obtain ⟨⟨l'⟩⟩:=s'
 simp only at this; subst this; rfl
mutual
theorem zGn:∀ a b:Atom,zBH a=zBH b→a=b
 | ⟨k,r,a,f,i,o,v⟩,⟨k',r',a',f',i',o',v'⟩=>fun h=>by
  simp only [zBH,TT.l.injEq,List.cons.injEq,TT.i.injEq,and_true] at h
  obtain ⟨rfl,h1,h2,h3,rfl,h4,rfl,h5⟩:=h
  obtain ⟨t,s⟩:=r; obtain ⟨t',s'⟩:=r'
  simp only at h1 h2; subst h1 h2
  rw [zB9 a a' h3,zAG i i' h4,zFI h5]
theorem zEU:∀ a b:Factor,zym a=zym b→a=b
 | ⟨x,e⟩,⟨x',e'⟩=>fun h=>by
  simp only [zym,TT.l.injEq,List.cons.injEq,TT.i.injEq,and_true] at h
  rw [zGn x x' h.1,h.2]
theorem zyS:∀ a b:List Factor,znq a=znq b→a=b
 | [],[]=>fun _=>rfl
 | [],_::_=>fun h=>by simp [znq] at h
 | _::_,[]=>fun h=>by simp [znq] at h
 | x::a,y::b=>fun h=>by
  simp only [znq,List.cons.injEq] at h
  rw [zEU x y h.1,zyS a b h.2]
theorem zF0:∀ a b:Term,zB6 a=zB6 b→a=b
 | ⟨c,l⟩,⟨c',l'⟩=>fun h=>by
  simp only [zB6,TT.l.injEq,List.cons.injEq,TT.i.injEq,and_true] at h
  rw [zyS l l' h.1,h.2]
theorem zzC:∀ a b:List Term,zvW a=zvW b→a=b
 | [],[]=>fun _=>rfl
 | [],_::_=>fun h=>by simp [zvW] at h
 | _::_,[]=>fun h=>by simp [zvW] at h
 | x::a,y::b=>fun h=>by
  simp only [zvW,List.cons.injEq] at h
  rw [zF0 x y h.1,zzC a b h.2]
theorem zB9:∀ a b:List (List Term),zuE a=zuE b→a=b
 | [],[]=>fun _=>rfl
 | [],_::_=>fun h=>by simp [zuE] at h
 | _::_,[]=>fun h=>by simp [zuE] at h
 | x::a,y::b=>fun h=>by
  simp only [zuE,List.cons.injEq,TT.l.injEq] at h
  rw [zzC x y h.1,zB9 a b h.2]
theorem zGc:∀ a b:Weighted,zBC a=zBC b→a=b
 | ⟨c,l⟩,⟨c',l'⟩=>fun h=>by
  simp only [zBC,TT.l.injEq,List.cons.injEq,and_true] at h
  rw [zFI h.1,zzC l l' h.2]
theorem zAG:∀ a b:List Weighted,zrO a=zrO b→a=b
 | [],[]=>fun _=>rfl
 | [],_::_=>fun h=>by simp [zrO] at h
 | _::_,[]=>fun h=>by simp [zrO] at h
 | x::a,y::b=>fun h=>by
  simp only [zrO,List.cons.injEq] at h
  rw [zGc x y h.1,zAG a b h.2]
end
def zyu (P:List Term→Prop) (x:Atom):Prop:=
 (x.Args.length≤1000000∧x.Items.length≤1000000∧x.Bound.Text.size≤1000000000000)∧(∀ a∈x.Args,P a)∧∀ w∈x.Items,w.Value.Text.size≤1000000000000∧P w.Ann
def zE4 (P:List Term→Prop) (l:List Factor):Prop:=l.length≤1000000∧∀ f∈l,zyu P f.Atom
def znL:Nat→List Term→Prop
 | 0,_=>False
 | n+1,a=>a.length≤1000000∧∀ t∈a,zE4 (znL n) t.Factors
theorem zyu.imp {P Q:List Term→Prop} (h:∀ a,P a→Q a) {x:Atom} (hx:zyu P x):zyu Q x:=⟨hx.1,fun a ha=>h a (hx.2.1 a ha),fun w hw=>⟨(hx.2.2 w hw).1,h _ (hx.2.2 w hw).2⟩⟩
theorem znL.succ:∀ (n:Nat) (a:List Term),znL n a→znL (n+1) a
 | 0,_,h=>h.elim
 | n+1,a,h=>⟨h.1,fun t ht=>⟨(h.2 t ht).1,fun f hf=>((h.2 t ht).2 f hf).imp (znL.succ n)⟩⟩
theorem znL.mono {n m:Nat} {a:List Term} (h:znL n a) (hm:n≤m):znL m a:=by
 obtain ⟨k,rfl⟩:=Nat.exists_eq_add_of_le hm
 clear hm
 induction k with
 | zero=>exact h
 | succ k ih=>exact znL.succ _ _ ih
theorem zzZ (x y:Int):zc3 x y=(true,cmpI x y):=by
 unfold zc3 zoq zjS zqG cmpI
 by_cases h1:x<y
 ·simp [h1,Wy.fin_i,Wy.fin_k]
 ·by_cases h2:y<x <;>simp [h1,h2,Wy.fin_i,Wy.fin_k]
theorem zxT (x y:Int):zhl x y=(true,cmpI x y):=by
 unfold zhl zmk zin zoj cmpI
 by_cases h1:x<y
 ·simp [h1,Wy.fin_i,Wy.fin_k]
 ·by_cases h2:y<x <;>simp [h1,h2,Wy.fin_i,Wy.fin_k]
def zsa:List Int→Int
 | []=>0
 | x::r=>if x=0 then zsa r else x
theorem zFi (l:List Int) (hl:l.length≤1000000):∀ (n i:Nat),l.length<i+n→i≤l.length→∃ r,zti n 0 l l.length i=(true,r)∧(r=.inl (zsa (l.drop i))∨(r=.inr 0∧zsa (l.drop i)=0))
 | 0,i,h,h2=>by omega
 | n+1,i,h,h2=>by
  show ∃ r,(ztt 0 l l.length i).ev (fun x y=>zti n x.1 x.2.1 x.2.2.1 x.2.2.2.1) (fun r=>(true,r)) (false,.inl default)=(true,r)∧_
  unfold ztt
  by_cases hi:i<l.length
  ·simp only [Wy.ev_i,Wy.ev_k,Wy.ev_h,Int.ofNat_eq_natCast,zD3,zCR,decide_true,decide_false,Bool.and_self,Bool.true_and,Bool.and_true,cond_true,cond_false,Int.toNat_natCast,Bool.not_true,Bool.not_false,hi]
   obtain ⟨r,h1,h3⟩:=zFi l hl n (i+1) (by omega) (by omega)
   rw [zny hi,zjc (by omega),h1]
   generalize l.getD i default=x
   by_cases hx:x=0
   ·have e:(x != 0)=false:=by simp [hx]
    simp only [e,cond_false,zsa,hx,if_true]
    exact ⟨r,rfl,h3⟩
   ·have e:(x != 0)=true:=by simp [hx]
    simp only [e,cond_true,zsa,hx,if_false]
    exact ⟨_,rfl,.inl rfl⟩
  ·simp only [Wy.ev_i,Wy.ev_k,Wy.ev_h,Int.ofNat_eq_natCast,zD3,zCR,decide_true,decide_false,Bool.and_self,Bool.true_and,Bool.and_true,cond_true,cond_false,Int.toNat_natCast,Bool.not_true,Bool.not_false,hi,znI hi]
   exact ⟨_,rfl,.inr ⟨rfl,rfl⟩⟩
theorem zDz (l:List Int) (hl:l.length≤1000000):ziS l=(true,zsa l):=by
 unfold ziS zuK
 obtain ⟨r,h1,h2⟩:=zFi l hl (Int.toNat 0+l.length+(Int.ofNat l.length).toNat +Int.toNat 0+1000) 0 (by simp; omega) (by omega)
 rw [show ((0:Nat):Int)=(0:Int) from rfl] at h1
 rw [Wy.fin_bn,show Int.ofNat l.length=(l.length:Int) from rfl] at *
 rw [h1]
 rw [List.drop_zero] at h2
 rcases h2 with rfl | ⟨rfl,h2⟩
 ·rfl
 ·rw [h2]; rfl
theorem zAY (s:ByteArray):∀ (n i:Nat) (r:List UInt8),s.size≤i+n→ByteArray.toList.loop s i r=r.reverse++s.data.toList.drop i
 | 0,i,r,h=>by
  rw [ByteArray.toList.loop,if_neg (by omega),List.drop_eq_nil_of_le (by rw [← Lib.size_eq]; omega),List.append_nil]
 | n+1,i,r,h=>by
  rw [ByteArray.toList.loop]
  by_cases hi:i<s.size
  ·have hi':i<s.data.toList.length:=by rw [← Lib.size_eq]; exact hi
   rw [if_pos hi,zAY s n (i+1) _ (by omega),List.drop_eq_getElem_cons hi',List.reverse_cons,List.append_assoc]
   congr 1
   have:s.get! i=s.data.toList[i]:=by
    have h':i<s.data.size:=hi
    show s.data[i]! =s.data.toList[i]
    rw [getElem!_pos s.data i h']; rfl
   rw [this]; rfl
  ·rw [if_neg hi,List.drop_eq_nil_of_le (by rw [← Lib.size_eq]; omega),List.append_nil]
theorem toList_eq (s:ByteArray):s.toList=s.data.toList:=by
 rw [ByteArray.toList,zAY s s.size 0 [] (by omega)]; rfl
theorem zzm {s t:ByteArray} (h:s.data.toList=t.data.toList):s=t:=by
 cases s; cases t
 congr 1
 exact Array.toList_inj.1 h
theorem zF1 (s t:ByteArray):(s.toList==t.toList)=decide (s.data.toList=t.data.toList):=by
 rw [toList_eq,toList_eq]
 cases hb:(s.data.toList==t.data.toList) with
 | true=>rw [decide_eq_true (beq_iff_eq.1 hb)]
 | false=>rw [decide_eq_false (fun h=>by rw [beq_iff_eq.2 h] at hb; cases hb)]
theorem zzr (s t:ByteArray):(s.toList==t.toList)=decide (s=t):=by
 rw [zF1]
 by_cases h:s=t
 ·rw [decide_eq_true h,decide_eq_true (by rw [h])]
 ·rw [decide_eq_false h,decide_eq_false fun e=>h (zzm e)]
theorem bne0 (z w:Int):(z != w)= !decide (z=w):=by by_cases h:z=w <;>simp [h]
theorem zy6:∀ a b:List UInt8,Op.bytesLess a b=decide (Lib.compareBytes a b<0)
 | [],[]=>by simp [Op.bytesLess,Lib.compareBytes]
 | _::_,[]=>by simp [Op.bytesLess,Lib.compareBytes]
 | [],_::_=>by simp [Op.bytesLess,Lib.compareBytes]
 | x::a,y::b=>by
  simp only [Op.bytesLess,Lib.compareBytes]
  by_cases p:x<y
  ·simp [p]
  ·by_cases q:y<x
   ·have hne:¬ x=y:=fun e=>by subst e; exact p q
    simp [p,q,hne]
   ·have he:x=y:=UInt8.toNat_inj.1 (by rw [UInt8.lt_iff_toNat_lt] at p q; omega)
    subst he
    simp [p,zy6 a b]
theorem zBn (a b:Value):zef a b=(true,cmpT (trV a) (trV b)):=by
 unfold zef zqA zlH zu4
 rw [zzr,toList_eq,toList_eq,zy6,zFv]
 simp only [trV,cmpT,cmpL,cmpI]
 simp only [Wy.fin_i,Wy.fin_bn,Wy.fin_k,cond_true,bne0]
 by_cases h1:a.Kind=b.Kind
 ·by_cases h2:a.Int=b.Int
  ·by_cases h3:a.Text=b.Text
   ·simp [h1,h2,h3,zG7]
   ·have h4:cmpT (trB a.Text) (trB b.Text)≠0:=fun e=>by
     have:=ztm _ _ (TT.l.inj (zxf _ _ e))
     exact h3 (zzm this)
    have h5:=zEX (trB a.Text) (trB b.Text)
    simp only [trB,cmpT] at h4 h5
    simp only [trB,cmpT]
    rcases h5 with h5 | h5 | h5
    ·simp [h1,h2,h3,h5]
    ·exact absurd h5 h4
    ·simp [h1,h2,h3,h5]
  ·by_cases h3:a.Int<b.Int
   ·simp [h1,h2,h3]
   ·simp [h1,h2,h3,show b.Int<a.Int by omega]
 ·by_cases h3:a.Kind<b.Kind
  ·simp [h1,h3]
  ·simp [h1,h3,show b.Kind<a.Kind by omega]
theorem zBe (a b:Value):zbF a b=(true,cmpT (trV a) (trV b)):=by
 unfold zbF zrg
 have h:(strings_Compare a.Text b.Text).2=cmpT (trB a.Text) (trB b.Text):=by rw [← zFv]; rfl
 simp only [zzZ,zxT,Wy.fin_bn,cond_true,h]
 rw [zDz _ (by simp)]
 simp only [Wy.fin_k,cond_true,trV,cmpT,cmpL,zsa]
 rfl
theorem zpU {z:Int} (h0: -4611686018427387904≤z) (h:z<4611686018427387904):IntKind.i64.wrap z=z:=zCO (by omega) (by omega)
def allN (c:Nat→Bool):Nat→Nat→Bool
 | 0,_=>true
 | n+1,i=>c i&&allN c n (i+1)
theorem zD5 (c c':Nat→Bool):∀ n i,allN (fun k=>c k&&c' k) n i=(allN c n i&&allN c' n i)
 | 0,_=>rfl
 | n+1,i=>by
  simp only [allN,zD5 c c' n (i+1)]
  cases c i <;>cases c' i <;>simp
theorem zDY {τ:Type} [Inhabited τ] (p:τ→Bool) (l:List τ):∀ n i,i+n=l.length→allN (fun k=>p (l.getD k default)) n i=(l.drop i).all p
 | 0,i,h=>by rw [znI (by omega)]; rfl
 | n+1,i,h=>by
  rw [zny (by omega),List.all_cons]
  simp only [allN,zDY p l n (i+1) (by omega)]
theorem zC3 {τ:Type} [Inhabited τ] (p:τ→Bool) (l:List τ):allN (fun k=>p (l.getD k default)) l.length 0=l.all p:=by
 rw [zDY p l _ _ (by omega),List.drop_zero]
section
variable {α β ρ:Type}
theorem zD9 {W:α→β→Wy α β ρ} {z:ρ} (N:Nat) (ex:Nat→α) (ey:Nat→β) (c:Nat→Bool) (no yes:ρ)
  (h:∀ i,i<N→∀ (H:α→β→Bool×ρ) K D,(W (ex i) (ey i)).ev H K D=bif c i then H (ex (i+1)) (ey (i+1)) else K no)
  (he:∀ (H:α→β→Bool×ρ) K D,(W (ex N) (ey N)).ev H K D=K yes):
  ∀ n i,N<i+n→i≤N→zY W z n (ex i) (ey i)=(true,bif allN c (N - i) i then yes else no)
 | 0,i,h1,h2=>by omega
 | n+1,i,h1,h2=>by
  show (W (ex i) (ey i)).ev (zY W z n) (fun r=>(true,r)) (false,z)=_
  by_cases hi:i<N
  ·rw [h i hi,show N - i=(N - (i+1))+1 by omega]
   simp only [allN]
   cases c i with
   | false=>rfl
   | true=>rw [cond_true,zD9 N ex ey c no yes h he n (i+1) (by omega) (by omega)]; rfl
  ·have:i=N:=by omega
   subst this
   rw [he,Nat.sub_self]; rfl
theorem zDc {W:α→β→Wy α β ρ} {z:ρ} (N:Nat) (ex:Nat→α) (ey:Nat→β) (c:Nat→Bool) (no yes:ρ)
  (h:∀ i,i<N→∀ (H:α→β→Bool×ρ) K D,(W (ex i) (ey i)).ev H K D=bif c i then H (ex (i+1)) (ey (i+1)) else K no)
  (he:∀ (H:α→β→Bool×ρ) K D,(W (ex N) (ey N)).ev H K D=K yes) (n:Nat) (hn:N<n):zY W z n (ex 0) (ey 0)=(true,bif allN c N 0 then yes else no):=by
 have:=zD9 (z:=z) N ex ey c no yes h he n 0 (by omega) (by omega)
 simpa using this
end
def ixf {α:Type} (p:α→Bool):List α→Nat→Int
 | [],_=> -1
 | x::r,i=>bif p x then (i:Int) else ixf p r (i+1)
theorem zFl {α:Type} (p:α→Bool):∀ (l:List α) (i:Nat),decide (ixf p l i≥(0:Int))=l.any p
 | [],i=>by simp [ixf]
 | x::r,i=>by
  rw [List.any_cons]
  cases h:p x with
  | true=>simp [ixf,h]
  | false=>simpa [ixf,h] using zFl p r (i+1)
section
variable {α γ:Type} [Inhabited α]
def zFT (p:γ→α→Bool×Bool) (s:List α) (g:γ) (t7:Int) (t8:Int):Wy (List α×γ×Int×Int×Unit) (Unit) (Int⊕Unit):=.i (decide (t8<t7)) (.i (decide ((0:Int)≤t8)&&decide (t8<Int.ofNat s.length)) (.bn (p g (s.getD t8.toNat default)) fun r0=>.i (r0) (.k (.inl t8)) (.h (s,g,t7,(IntKind.i64.wrap (t8+(1:Int))),()) ())) .d) (.k (.inr ()))
def zI7 (p:γ→α→Bool×Bool) (x:List α×γ×Int×Int×Unit) (y:Unit):Wy (List α×γ×Int×Int×Unit) (Unit) (Int⊕Unit):=zFT p x.1 x.2.1 x.2.2.1 x.2.2.2.1
def zGp (p:γ→α→Bool×Bool) (n:Nat) (s:List α) (g:γ) (t7:Int) (t8:Int):Bool×(Int⊕Unit):=zY (zI7 p) (.inl default) n (s,g,t7,t8,()) ()
def IG (p:γ→α→Bool×Bool) (n:Nat) (g:γ) (s:List α):Bool×Int:=(.bn (zGp p n s g (Int.ofNat s.length) (0:Int)) fun r2=>.i (isL r2) (.k (getL r2)) (.k (-1:Int)):Wy0 Int).fin default
theorem zFr (p:γ→α→Bool×Bool) (P:α→Bool) (g:γ) (s:List α) (hs:s.length≤1000000000) (hp:∀ x∈s,p g x=(true,P x)):∀ (n i:Nat),s.length<i+n→i≤s.length→
  ∃ r,zGp p n s g s.length i=(true,r)∧((r=.inl (ixf P (s.drop i) i))∨(r=.inr ()∧ixf P (s.drop i) i= -1))
 | 0,i,h,h2=>by omega
 | n+1,i,h,h2=>by
  show ∃ r,(zFT p s g s.length i).ev (fun x y=>zGp p n x.1 x.2.1 x.2.2.1 x.2.2.2.1) (fun r=>(true,r)) (false,.inl default)=(true,r)∧_
  unfold zFT
  by_cases hi:i<s.length
  ·simp only [Wy.ev_i,Wy.ev_k,Wy.ev_h,Wy.ev_bn,Wy.ev_d,tT,hi,hp _ (zrP hi)]
   rw [zny hi,zjc (by omega)]
   simp only [ixf]
   cases P (s.getD i default) with
   | true=>exact ⟨_,rfl,.inl rfl⟩
   | false=>exact zFr p P g s hs hp n (i+1) (by omega) (by omega)
  ·simp only [Wy.ev_i,Wy.ev_k,Wy.ev_h,Wy.ev_bn,Wy.ev_d,tT,hi,znI hi]
   exact ⟨_,rfl,.inr ⟨rfl,rfl⟩⟩
theorem zHO (p:γ→α→Bool×Bool) (P:α→Bool) (n:Nat) (g:γ) (s:List α) (hs:s.length≤1000000000) (hp:∀ x∈s,p g x=(true,P x)) (hn:s.length<n):IG p n g s=(true,ixf P s 0):=by
 unfold IG
 obtain ⟨r,h1,h2⟩:=zFr p P g s hs hp n 0 (by omega) (by omega)
 rw [show ((0:Nat):Int)=(0:Int) from rfl] at h1
 rw [Wy.fin_bn,show Int.ofNat s.length=(s.length:Int) from rfl,h1]
 rw [List.drop_zero] at h2
 rcases h2 with rfl | ⟨rfl,h2⟩
 ·rfl
 ·rw [h2]; rfl
theorem zA8 {α:Type} {s:List α} {P:α→Bool} {q:Bool×Int} (h:q=(true,ixf P s 0)):((.bn q fun r0=>.k (decide (r0≥(0:Int))):Wy0 Bool).fin default)=(true,s.any P):=by
 rw [h,Wy.fin_bn,cond_true,Wy.fin_k,zFl]
end
theorem beqd (a b:Int):(a==b)=decide (a=b):=by by_cases h:a=b <;>simp [h]
theorem beqn (a b:Nat):(a==b)=decide (a=b):=by by_cases h:a=b <;>simp [h]
theorem i0 (l:Nat):((l:Int)==0)=(l==0):=by
 rw [beqd,beqn]; congr 1; simp
theorem zI0 (a b:Nat):decide (a>b)= !decide (a≤b):=by
 by_cases h:a≤b
 ·have:¬ a>b:=by omega
  simp [h,this]
 ·have:a>b:=by omega
  simp [h,this]
def valV (v:Value):Bool:=(v.Kind==0&&v.Text.size==0)||(v.Kind==1&&v.Int==0&&decide (v.Text.size≤255))||(v.Kind==2&&v.Text.size==0&&(v.Int==0||v.Int==1))
theorem zEi (s:ByteArray):(s.toList==(ByteArray.mk #[]).toList)=(s.size==0):=by
 rw [zzr]
 by_cases h:s.size=0
 ·have:s=ByteArray.mk #[]:=zzm (by
   have:s.data.toList.length=0:=by simpa using h
   rw [List.length_eq_zero_iff.1 this])
  subst this; rfl
 ·have:¬ s=ByteArray.mk #[]:=fun e=>h (by rw [e]; rfl)
  simp [h,this]
theorem zxL (v:Value):zgn v=(true,valV v):=by
 unfold zgn ztd valV
 simp only [zEi,Wy.fin_i,Wy.fin_k,beqd,beqn]
 have e:decide (Int.ofNat v.Text.size≤(255:Int))=decide (v.Text.size≤255):=zzE _ 255
 rw [e]
 by_cases h0:v.Kind=0
 ·simp [h0]
 ·by_cases h1:v.Kind=1
  ·by_cases h2:v.Int=0 <;>simp [h1,h2]
  ·by_cases h2:v.Kind=2
   ·by_cases h3:v.Int=0
    ·simp [h2,h3]
    ·by_cases h4:v.Int=1 <;>simp [h2,h3,h4]
   ·simp [h0,h1,h2]
theorem zxJ (v:Value):zkc v=(true,valV v):=by
 unfold zkc ztf valV
 simp only [zEi,Wy.fin_i,Wy.fin_k,beqd,beqn]
 have e:decide (Int.ofNat v.Text.size≤(255:Int))=decide (v.Text.size≤255):=zzE _ 255
 rw [e]
 by_cases h0:v.Kind=0
 ·simp [h0]
 ·by_cases h1:v.Kind=1
  ·by_cases h2:v.Int=0 <;>simp [h1,h2]
  ·by_cases h2:v.Kind=2
   ·by_cases h3:v.Int=0
    ·by_cases h4:v.Text.size=0 <;>simp [h2,h3,h4]
    ·by_cases h4:v.Text.size=0 <;>simp [h2,h3,h4]
   ·simp [h0,h1,h2]
theorem zDs (c:Nat→Bool):∀ n i,allN c (n+1) i=(allN c n i&&c (i+n))
 | 0,i=>by simp [allN]
 | n+1,i=>by
  rw [allN,zDs c n (i+1),allN,show i+1+n=i+(n+1) by omega,Bool.and_assoc]
def cmpV (a b:Value):Int:=cmpT (trV a) (trV b)
theorem zDl (a b:Value):cmpV b a= - cmpV a b:=zvO _ _
theorem value_Compare_eq' (a b:Value):zbF a b=(true,cmpV a b):=zBe a b
theorem ref01_Compare_eq' (a b:Value):zef a b=(true,cmpV a b):=zBn a b
end Go.Proofs.YtddkaehkimnklaaGreatDoor
namespace Go.Proofs.YtddkaehkimnklaaGreatDoor
open Go Go.Ab
end Go.Proofs.YtddkaehkimnklaaGreatDoor
namespace Go.Proofs.YtddkaehkimnklaaGreatDoor
open Go Go.Ab
end Go.Proofs.YtddkaehkimnklaaGreatDoor
/- Conditions as trees that are small: the reference's counts end. -/
namespace Go.Proofs.YtddkaehkimnklaaGreatDoor
open Go Go.Ab
def ztW:Nat→Scalar→Prop
 | 0,_=>False
 | n+1,e=>e.Args.length≤1000000∧∀ x∈e.Args,ztW n x
theorem ztW.succ:∀ (n:Nat) (e:Scalar),ztW n e→ztW (n+1) e
 | 0,_,h=>h.elim
 | n+1,e,h=>⟨h.1,fun x hx=>ztW.succ n x (h.2 x hx)⟩
theorem ztW.mono {n m:Nat} {e:Scalar} (h:ztW n e) (hm:n≤m):ztW m e:=by
 obtain ⟨k,rfl⟩:=Nat.exists_eq_add_of_le hm
 clear hm
 induction k with
 | zero=>exact h
 | succ k ih=>exact ztW.succ _ _ ih
end Go.Proofs.YtddkaehkimnklaaGreatDoor
namespace Go.Proofs.YtddkaehkimnklaaGreatDoor
open Go Go.Ab
def zV:Value:=⟨0,0,ByteArray.mk #[]⟩
theorem veq (a b:Value):(a.Kind==b.Kind&&(a.Int==b.Int&&(a.Text.toList==b.Text.toList&&true)))=decide (a=b):=by
 obtain ⟨k,n,s⟩:=a; obtain ⟨k',n',s'⟩:=b
 simp only [zzr,beqd,Bool.and_true,Value.mk.injEq]
 by_cases h1:k=k' <;>by_cases h2:n=n' <;>by_cases h3:s=s' <;>simp [h1,h2,h3]
theorem zHK (a:Value):(a.Kind==(0:Int)&&(a.Int==(0:Int)&&(a.Text.toList==(ByteArray.mk #[]).toList&&true)))=decide (a=zV):=veq a zV
def zph (k:Int) (b:Value):Bool:=valV b&&decide (b.Kind=k)
def srtB (l:List Value) (k:Nat):Bool:=decide (k=0)||decide (cmpV (l.getD (k - 1) default) (l.getD k default)≤0)
def okC (c:ColumnStats) (rows:Int):Bool:=
 if rows=0 then decide (c.Distinct=0)&&(decide (c.Min=zV)&&(decide (c.Max=zV)&&decide (c.Bounds.length=0)))
 else decide (1≤c.Distinct)&&(decide (c.Distinct≤rows)&&(valV c.Min&&(valV c.Max&&(decide (c.Min.Kind=c.Max.Kind)&&(decide (cmpV c.Min c.Max≤0)&&(decide (c.Bounds.length=8)&&(decide (c.Bounds.getD 7 default=c.Max)&&
  (c.Bounds.all (zph c.Min.Kind)&&(decide (cmpV c.Min (c.Bounds.getD 0 default)≤0)&&allN (srtB c.Bounds) c.Bounds.length 0)))))))))
def okS (s:Stats):Bool:=decide (0≤s.Rows)&&(decide (s.Rows≤1000000)&&(decide (s.Columns.length≤16)&&s.Columns.all fun c=>okC c s.Rows))
theorem zEQ (a b:Int):decide (a<b)= !decide (b≤a):=by
 by_cases h:b≤a
 ·have:¬ a<b:=by omega
  simp [h,this]
 ·have:a<b:=by omega
  simp [h,this]
theorem zEm (a b:Int):decide (a>b)= !decide (a≤b):=zEQ b a
theorem zGJ (a b:Value):decide (cmpV a b>0)= !decide (cmpV a b≤0):=zEm _ _
theorem zIi (c:ColumnStats) (hc:c.Bounds.length=8) (n:Nat) (hn:8<n):
  zqJ n 0 c c.Min=(true,bif allN (fun i=>zph c.Min.Kind (c.Bounds.getD i default)&&decide (cmpV (if i=0 then c.Min else c.Bounds.getD (i - 1) default) (c.Bounds.getD i default)≤0)) 8 0 then .inr () else .inl false):=by
 refine zDc (W:=zi1) (z:=.inl default) 8 (fun i=>((),(),(i:Int),())) (fun i=>(c,(if i=0 then c.Min else c.Bounds.getD (i - 1) default),())) _ (.inl false) (.inr ()) (fun i hi H K D=> ?_) (fun H K D=> ?_) n hn
 ·show (zi5 i c (if i=0 then c.Min else c.Bounds.getD (i - 1) default)).ev H K D=_
  unfold zi5
  have h8:decide ((i:Int)<(8:Int))=true:=decide_eq_true (by omega)
  have hl:i<c.Bounds.length:=by omega
  have hk:((c.Bounds.getD i default).Kind != c.Min.Kind)= !decide ((c.Bounds.getD i default).Kind=c.Min.Kind):=bne0 _ _
  simp only [Wy.ev_i,Wy.ev_k,Wy.ev_h,Wy.ev_bn,Wy.ev_d,tT,h8,hl,zxJ,ref01_Compare_eq',hk,zph,zGJ,zjc (show i<4611686018427387904 by omega),if_neg (show ¬ i+1=0 by omega),show i+1 - 1=i from rfl]
  cases valV (c.Bounds.getD i default) <;>cases decide ((c.Bounds.getD i default).Kind=c.Min.Kind) <;>cases decide (cmpV (if i=0 then c.Min else c.Bounds.getD (i - 1) default) (c.Bounds.getD i default)≤0) <;>rfl
 ·show (zi5 ((8:Nat):Int) c _).ev H K D=_
  rfl
theorem zHt (c:ColumnStats) (hc:c.Bounds.length=8):allN (fun i=>zph c.Min.Kind (c.Bounds.getD i default)&&decide (cmpV (if i=0 then c.Min else c.Bounds.getD (i - 1) default) (c.Bounds.getD i default)≤0)) 8 0=
  (c.Bounds.all (zph c.Min.Kind)&&(decide (cmpV c.Min (c.Bounds.getD 0 default)≤0)&&allN (srtB c.Bounds) c.Bounds.length 0)):=by
 rw [zD5, ← hc,zC3,hc]
 congr 1
theorem zyr (c:ColumnStats) (rows:Int):ziN c rows=(true,okC c rows):=by
 unfold ziN zmj okC
 by_cases h0:rows=0
 ·subst h0
  simp only [zHK]
  simp only [Wy.fin_i,Wy.fin_k,beqd,if_pos,decide_true,cond_true]
  have e:decide (Int.ofNat c.Bounds.length=(0:Int))=decide (c.Bounds.length=0):=by
   by_cases h:c.Bounds.length=0
   ·rw [h]; rfl
   ·rw [decide_eq_false h,decide_eq_false]; intro hc; exact h (Int.ofNat.inj hc)
  rw [e]
  cases decide (c.Distinct=0) <;>cases decide (c.Min=zV) <;>cases decide (c.Max=zV) <;>rfl
 ·have e8:(Int.ofNat c.Bounds.length != (8:Int))= !decide (c.Bounds.length=8):=by
   rw [bne0]
   congr 1
   by_cases h:c.Bounds.length=8
   ·rw [h]; rfl
   ·rw [decide_eq_false h,decide_eq_false]; intro hc; exact h (Int.ofNat.inj hc)
  have er:(rows==(0:Int))=false:=by rw [beqd,decide_eq_false h0]
  have z7:Int.toNat (7:Int)=7:=rfl
  simp only [veq]
  simp only [Wy.fin_i,Wy.fin_bn,Wy.fin_k,er,if_neg h0,cond_false,cond_true,zxJ,ref01_Compare_eq',zEQ c.Distinct 1,zEm c.Distinct rows,zGJ,bne0 c.Min.Kind,e8,z7]
  by_cases h8:c.Bounds.length=8
  ·have e7:(decide ((0:Int)≤(7:Int))&&decide ((7:Int)<Int.ofNat c.Bounds.length))=true:=by rw [h8]; rfl
   rw [e7,zIi c h8 _ (by rw [h8]; decide),zHt c h8,decide_eq_true h8]
   cases decide (1≤c.Distinct) <;>cases decide (c.Distinct≤rows) <;>cases valV c.Min <;>cases valV c.Max <;>cases decide (c.Min.Kind=c.Max.Kind) <;>cases decide (cmpV c.Min c.Max≤0) <;>try rfl
   cases decide (c.Bounds.getD 7 default=c.Max) <;>try rfl
   cases (c.Bounds.all (zph c.Min.Kind)&&(decide (cmpV c.Min (c.Bounds.getD 0 default)≤0)&&allN (srtB c.Bounds) c.Bounds.length 0)) <;>rfl
  ·rw [decide_eq_false h8]
   cases decide (1≤c.Distinct) <;>cases decide (c.Distinct≤rows) <;>cases valV c.Min <;>cases valV c.Max <;>cases decide (c.Min.Kind=c.Max.Kind) <;>cases decide (cmpV c.Min c.Max≤0) <;>rfl
theorem zxA (s:Stats):zme s=(true,okS s):=by
 unfold zme zs5 okS
 have el:decide (Int.ofNat s.Columns.length>(16:Int))= !decide (s.Columns.length≤16):=by
  rw [show decide (Int.ofNat s.Columns.length>(16:Int))=decide (s.Columns.length>16) from zzL _ 16,zI0]
 simp only [Wy.fin_i,Wy.fin_bn,Wy.fin_k,zEQ s.Rows 0,zEm s.Rows 1000000,el]
 by_cases hl:s.Columns.length≤16
 ·have h:=zDc (W:=znC) (z:=.inl default) s.Columns.length (fun i=>((),(i:Int),())) (fun _=>(s,())) (fun i=>okC (s.Columns.getD i default) s.Rows) (.inl false) (.inr ()) (fun i hi H K D=>by
    show (zkL i s).ev H K D=_
    unfold zkL
    simp only [Wy.ev_i,Wy.ev_k,Wy.ev_h,Wy.ev_bn,Wy.ev_d,tT,hi,zyr,zjc (show i<4611686018427387904 by omega)]
    cases okC (s.Columns.getD i default) s.Rows <;>rfl) (fun H K D=>by
    show (zkL s.Columns.length s).ev H K D=_
    unfold zkL
    simp only [Wy.ev_i,Wy.ev_k,Wy.ev_h,Wy.ev_bn,Wy.ev_d,tT,Nat.lt_irrefl]) (Int.toNat (0:Int)+s.Columns.length+(1:Nat)) (by omega)
  replace h:zwL (Int.toNat (0:Int)+s.Columns.length+(1:Nat)) 0 s=_:=h
  rw [h,zC3 (fun c=>okC c s.Rows),decide_eq_true hl]
  cases decide (0≤s.Rows) <;>cases decide (s.Rows≤1000000) <;>try rfl
  cases s.Columns.all (fun c=>okC c s.Rows) <;>rfl
 ·rw [decide_eq_false hl]
  cases decide (0≤s.Rows) <;>cases decide (s.Rows≤1000000) <;>rfl
def qP (d:Int):Int:=if Int.tdiv 1000 d>1 then Int.tdiv 1000 d else 1
theorem zEa {d:Int} (h:1≤d):0≤Int.tdiv 1000 d∧Int.tdiv 1000 d≤1000:=by
 rw [Int.tdiv_eq_ediv_of_nonneg (by omega)]
 exact ⟨Int.ediv_nonneg (by omega) (by omega),Int.ediv_le_self _ (by omega)⟩
theorem zIL {d:Int} (h:1≤d):1≤qP d∧qP d≤1000:=by
 have:=zEa h
 unfold qP; split <;>omega
theorem zIp {d:Int} (h:1≤d):(if IntKind.i64.wrap (Int.tdiv (1000:Int) d)>(1:Int) then IntKind.i64.wrap (Int.tdiv (1000:Int) d) else (1:Int))=qP d:=by
 have:=zEa h
 rw [zpU (by omega) (by omega)]; rfl
def eqP (s:Stats) (k:Nat) (v:Value):Int:=
 if s.Rows=0 then 0 else if cmpV v (s.Columns.getD k default).Min<0 then 0 else if cmpV v (s.Columns.getD k default).Max>0 then 0 else qP (s.Columns.getD k default).Distinct
def ltP (s:Stats) (k:Nat) (v:Value):Int:=((125*((s.Columns.getD k default).Bounds.filter fun b=>decide (cmpV b v<0)).length:Nat):Int)
def leP (s:Stats) (k:Nat) (v:Value):Int:=if ltP s k v+eqP s k v<1000 then ltP s k v+eqP s k v else 1000
def hasP (s:Stats) (k:Int):Bool:=decide (0≤k)&&decide (k<(s.Columns.length:Int))
theorem znz {s:Stats} (h:okS s=true):0≤s.Rows∧s.Rows≤1000000∧s.Columns.length≤16∧∀ c∈s.Columns,okC c s.Rows=true:=by
 unfold okS at h
 simp only [Bool.and_eq_true,decide_eq_true_eq,List.all_eq_true] at h
 exact ⟨h.1,h.2.1,h.2.2.1,h.2.2.2⟩
theorem zEq {c:ColumnStats} (h:okC c 0=true):c.Distinct=0∧c.Min=zV∧c.Max=zV∧c.Bounds=[]:=by
 unfold okC at h
 rw [if_pos rfl] at h
 simp only [Bool.and_eq_true,decide_eq_true_eq] at h
 exact ⟨h.1,h.2.1,h.2.2.1,List.length_eq_zero_iff.1 h.2.2.2⟩
theorem zAv {c:ColumnStats} {r:Int} (hr:r≠0) (h:okC c r=true):1≤c.Distinct∧c.Distinct≤r∧valV c.Min=true∧valV c.Max=true∧c.Min.Kind=c.Max.Kind∧cmpV c.Min c.Max≤0∧c.Bounds.length=8∧c.Bounds.getD 7 default=c.Max∧(∀ b∈c.Bounds,zph c.Min.Kind b=true)∧cmpV c.Min (c.Bounds.getD 0 default)≤0∧allN (srtB c.Bounds) c.Bounds.length 0=true:=by
 unfold okC at h
 rw [if_neg hr] at h
 simp only [Bool.and_eq_true,decide_eq_true_eq,List.all_eq_true] at h
 exact ⟨h.1,h.2.1,h.2.2.1,h.2.2.2.1,h.2.2.2.2.1,h.2.2.2.2.2.1,h.2.2.2.2.2.2.1,h.2.2.2.2.2.2.2.1,h.2.2.2.2.2.2.2.2.1,h.2.2.2.2.2.2.2.2.2.1,h.2.2.2.2.2.2.2.2.2.2⟩
theorem zzt {s:Stats} (h:okS s=true) {k:Nat} (hk:k<s.Columns.length):(s.Columns.getD k default).Bounds.length≤8:=by
 obtain ⟨h1,h2,h3,h4⟩:=znz h
 have hc:=h4 _ (zrP hk)
 by_cases h0:s.Rows=0
 ·rw [h0] at hc; rw [(zEq hc).2.2.2]; simp
 ·rw [(zAv h0 hc).2.2.2.2.2.2.1]; exact Nat.le_refl _
theorem zxs {s:Stats} (h:okS s=true) {k:Nat} (hk:k<s.Columns.length) (v:Value):0≤ltP s k v∧ltP s k v≤1000:=by
 have h1:=zzt h hk
 have h2:=List.length_filter_le (fun b=>decide (cmpV b v<0)) (s.Columns.getD k default).Bounds
 unfold ltP
 omega
theorem zCU {s:Stats} (h:okS s=true) {k:Nat} (hk:k<s.Columns.length) (v:Value):0≤eqP s k v∧eqP s k v≤1000:=by
 obtain ⟨h1,h2,h3,h4⟩:=znz h
 have hc:=h4 _ (zrP hk)
 unfold eqP
 by_cases h0:s.Rows=0
 ·rw [if_pos h0]; omega
 ·have:=zIL (zAv h0 hc).1
  rw [if_neg h0]
  split
  ·omega
  ·split <;>omega
theorem zFw {s:Stats} (h:okS s=true) {k:Nat} (hk:k<s.Columns.length) (v:Value):0≤leP s k v∧leP s k v≤1000:=by
 have h1:=zxs h hk v
 have h2:=zCU h hk v
 unfold leP; split <;>omega
theorem zEj {s:Stats} {k:Int}:hasP s k=true↔0≤k∧k.toNat<s.Columns.length:=by
 unfold hasP; simp only [Bool.and_eq_true,decide_eq_true_eq]; omega
theorem ge0 (k:Int):decide (k≥(0:Int))=decide (0≤k):=rfl
theorem zzn (s:Stats) (k:Int):zp3 s k=(true,hasP s k):=by
 unfold zp3 zww hasP
 rw [Wy.fin_i,ge0]
 by_cases h:0≤k
 ·rw [decide_eq_true h]; rfl
 ·rw [decide_eq_false h]; rfl
theorem zCK (s:Stats) (k:Nat) (v:Value) (hk:k<s.Columns.length) (hb:(s.Columns.getD k default).Bounds.length≤1000):
  ∀ (n i m:Nat),(s.Columns.getD k default).Bounds.length<i+n→i≤(s.Columns.getD k default).Bounds.length→m≤125*i→
   zsi n k m i s v=(true,((m+125*(((s.Columns.getD k default).Bounds.drop i).filter fun b=>decide (cmpV b v<0)).length:Nat):Int))
 | 0,i,m,h,h2,_=>by omega
 | n+1,i,m,h,h2,h3=>by
  show (zwn k m i s v).ev (fun x y=>zsi n x.1 x.2.2.2.1 x.2.2.2.2.1 y.1 y.2.1) (fun r=>(true,r)) (false,default)=_
  unfold zwn
  by_cases hi:i<(s.Columns.getD k default).Bounds.length
  ·have hw:IntKind.i64.wrap ((m:Int)+(125:Int))=((m+125:Nat):Int):=by
    rw [zpU (by omega) (by omega)]; rfl
   simp only [Wy.ev_i,Wy.ev_k,Wy.ev_h,Wy.ev_bn,Wy.ev_d,tT,hi,hk,ref01_Compare_eq',hw,zjc (show i<4611686018427387904 by omega)]
   rw [zny hi]
   by_cases hx:cmpV ((s.Columns.getD k default).Bounds.getD i default) v<0
   ·rw [decide_eq_true hx,cond_true,zCK s k v hk hb n (i+1) (m+125) (by omega) (by omega) (by omega),List.filter_cons_of_pos (by simpa using hx),List.length_cons]
    congr 2; omega
   ·rw [decide_eq_false hx,cond_false,zCK s k v hk hb n (i+1) m (by omega) (by omega) (by omega),List.filter_cons_of_neg (by simpa using hx)]
  ·simp only [Wy.ev_i,Wy.ev_k,Wy.ev_h,Wy.ev_bn,Wy.ev_d,tT,hi,hk,znI hi]
   rfl
theorem zAN {s:Stats} (h:okS s=true) {k:Nat} (hk:k<s.Columns.length) (v:Value):zr6 s k v=(true,ltP s k v):=by
 have hb:=zzt h hk
 have hz:∀ (n:Nat),(s.Columns.getD k default).Bounds.length<n→zsi n k 0 0 s v=(true,ltP s k v):=fun n hn=>by
  have:=zCK s k v hk (by omega) n 0 0 (by omega) (by omega) (by omega)
  rw [List.drop_zero,Nat.zero_add] at this
  exact this
 unfold zr6 zyC
 rw [Wy.fin_bn,hz _ (by omega)]
 rfl
theorem zHY {s:Stats} {k:Nat} (hk:k<s.Columns.length):(decide ((0:Int)≤(k:Int))&&decide ((k:Int)<Int.ofNat s.Columns.length))=true:=by
 simp only [tT,hk]
theorem zAM {s:Stats} (h:okS s=true) {k:Nat} (hk:k<s.Columns.length) (v:Value):zpk s k v=(true,eqP s k v):=by
 obtain ⟨h1,h2,h3,h4⟩:=znz h
 have hc:=h4 _ (zrP hk)
 unfold zpk zt9 eqP
 simp only [Wy.fin_i,Wy.fin_bn,Wy.fin_k,zHY hk,cond_true,Int.toNat_natCast,ref01_Compare_eq',beqd]
 by_cases h0:s.Rows=0
 ·rw [decide_eq_true h0,if_pos h0]; rfl
 ·have hd:=(zAv h0 hc).1
  have hne:¬ (s.Columns.getD k default).Distinct=0:=by omega
  rw [decide_eq_false h0,if_neg h0,decide_eq_false hne,zIp hd]
  by_cases g1:cmpV v (s.Columns.getD k default).Min<0
  ·rw [decide_eq_true g1,if_pos g1]; rfl
  ·rw [decide_eq_false g1,if_neg g1]
   by_cases g2:cmpV v (s.Columns.getD k default).Max>0
   ·rw [decide_eq_true g2,if_pos g2]; rfl
   ·rw [decide_eq_false g2,if_neg g2]; rfl
theorem zFf {s:Stats} (h:okS s=true) {k:Nat} (hk:k<s.Columns.length) (v:Value):zr9 s k v=(true,leP s k v):=by
 have h1:=zxs h hk v
 have h2:=zCU h hk v
 unfold zr9 zyv leP
 rw [Wy.fin_bn,zAN h hk,cond_true,Wy.fin_bn,zAM h hk,cond_true,Wy.fin_k,zpU (by omega) (by omega)]
theorem zB4 (l:List Value) (m:Int) (hl:l.length≤roomLen):∀ (n i:Nat),l.length<i+n→i≤l.length→∃ r,zsc n l m i=(true,r)∧(r=.inl false∨(r=.inr (l,m)∧∀ x∈l.drop i,x.Text.size≤300))
 | 0,i,h,h2=>by omega
 | n+1,i,h,h2=>by
  show ∃ r,(zr3 l m i).ev (fun x y=>zsc n x.1 x.2.1 x.2.2.1) (fun r=>(true,r)) (false,.inl default)=(true,r)∧_
  unfold zr3
  by_cases hi:i<l.length
  ·have hw:i<4611686018427387904:=by
    have:roomLen<4611686018427387904:=by decide
    omega
   have hs:decide (((l.getD i default).Text.size:Int)>(300:Int))=decide ((l.getD i default).Text.size>300):=zzL _ 300
   simp only [Wy.ev_i,Wy.ev_k,Wy.ev_h,Wy.ev_bn,Wy.ev_d,tT,hi]
   rw [hs]
   by_cases h3:(l.getD i default).Text.size>300
   ·rw [decide_eq_true h3]
    exact ⟨_,rfl,.inl rfl⟩
   ·rw [decide_eq_false h3,cond_false,zjc hw]
    obtain ⟨r,h4,h5⟩:=zB4 l m hl n (i+1) (by omega) (by omega)
    refine ⟨r,h4, ?_⟩
    rcases h5 with h5 | ⟨h5,h6⟩
    ·exact .inl h5
    ·refine .inr ⟨h5,fun x hx=> ?_⟩
     rw [zny hi] at hx
     rcases List.mem_cons.1 hx with rfl | hx
     ·omega
     ·exact h6 x hx
  ·simp only [Wy.ev_i,Wy.ev_k,Wy.ev_h,Wy.ev_bn,Wy.ev_d,tT,hi]
   exact ⟨_,rfl,.inr ⟨rfl,fun x hx=>by rw [znI hi] at hx; cases hx⟩⟩
theorem zBc (l:List Value) (m:Nat) (hl:l.length≤roomLen):∃ b,zg9 l m=(true,b)∧(b=true→l.length≤m∧∀ x∈l,x.Text.size≤300):=by
 unfold zg9 zto
 obtain ⟨r,h1,h2⟩:=zB4 l m hl (l.length+(m:Int).toNat +Int.toNat (0:Int)+(1:Nat)) 0 (by omega) (by omega)
 rw [show ((0:Nat):Int)=(0:Int) from rfl] at h1
 rw [Wy.fin_bn,h1]
 rcases h2 with rfl | ⟨rfl,h2⟩
 ·exact ⟨false,rfl,fun h=>by cases h⟩
 ·refine ⟨decide (l.length≤m), ?_,fun h=>⟨of_decide_eq_true h,h2⟩⟩
  show (true,decide (Int.ofNat l.length≤(m:Int)))=_
  rw [show decide (Int.ofNat l.length≤(m:Int))=decide (l.length≤m) from zzE _ _]
def zIA (s:Stats):Prop:=s.Columns.length≤20∧∀ c∈s.Columns,c.Bounds.length≤20
theorem zCs (s:Stats) (hs:wf30 s):∀ (n i:Nat),s.Columns.length<i+n→i≤s.Columns.length→∃ r,zuO n i s=(true,r)∧(r=.inl false∨(r=.inr s∧∀ c∈s.Columns.drop i,c.Bounds.length≤20))
 | 0,i,h,h2=>by omega
 | n+1,i,h,h2=>by
  show ∃ r,(zuZ i s).ev (fun x y=>zuO n x.2.1 y.1) (fun r=>(true,r)) (false,.inl default)=(true,r)∧_
  unfold zuZ
  by_cases hi:i<s.Columns.length
  ·have hw:i<4611686018427387904:=by
    have:=hs.2.2.2
    have:roomLen<4611686018427387904:=by decide
    omega
   have hc:=hs.2.2.1 _ (zrP hi)
   obtain ⟨b,hb,hb2⟩:=zBc (s.Columns.getD i default).Bounds 20 hc.2.2.2.2
   replace hb:zg9 (s.Columns.getD i default).Bounds (20:Int)=(true,b):=hb
   simp only [Wy.ev_i,Wy.ev_k,Wy.ev_h,Wy.ev_bn,Wy.ev_d,tT,hi,hb]
   cases b with
   | false=>exact ⟨_,rfl,.inl rfl⟩
   | true=>
    simp only [Bool.not_true,cond_false]
    generalize decide (IntKind.i64.wrap _>(600:Int))=q
    cases q with
    | true=>exact ⟨_,rfl,.inl rfl⟩
    | false=>
     rw [cond_false,zjc hw]
     obtain ⟨r,h4,h5⟩:=zCs s hs n (i+1) (by omega) (by omega)
     refine ⟨r,h4, ?_⟩
     rcases h5 with h5 | ⟨h5,h6⟩
     ·exact .inl h5
     ·refine .inr ⟨h5,fun x hx=> ?_⟩
      rw [zny hi] at hx
      rcases List.mem_cons.1 hx with rfl | hx
      ·exact (hb2 rfl).1
      ·exact h6 x hx
  ·simp only [Wy.ev_i,Wy.ev_k,Wy.ev_h,Wy.ev_bn,Wy.ev_d,tT,hi]
   exact ⟨_,rfl,.inr ⟨rfl,fun x hx=>by rw [znI hi] at hx; cases hx⟩⟩
theorem zHw (s:Stats) (hs:wf30 s):∃ b,zss s=(true,b)∧(b=true→zIA s):=by
 unfold zss zwi
 obtain ⟨r,h1,h2⟩:=zCs s hs (Int.toNat (0:Int)+s.Columns.length+(1:Nat)) 0 (by omega) (by omega)
 rw [show ((0:Nat):Int)=(0:Int) from rfl] at h1
 rw [Wy.fin_bn,h1]
 rcases h2 with rfl | ⟨rfl,h2⟩
 ·exact ⟨false,rfl,fun h=>by cases h⟩
 ·refine ⟨decide (s.Columns.length≤20), ?_,fun h=>⟨of_decide_eq_true h,h2⟩⟩
  show (true,decide (Int.ofNat s.Columns.length≤(20:Int)))=_
  rw [show decide (Int.ofNat s.Columns.length≤(20:Int))=decide (s.Columns.length≤20) from zzE _ 20]
end Go.Proofs.YtddkaehkimnklaaGreatDoor
end
