/- Texts of this claim, joined (the program, its functions in plain words, and what they compute). -/
import Derived.Test.YtddkaehkimnklaaGreatDoorGC1
import Derived.Test.YtddkaehkimnklaaGreatDoorGA3
import Derived.Test.YtddkaehkimnklaaGreatDoorGC4
import Derived.Test.YtddkaehkimnklaaGreatDoorGB1
set_option autoImplicit false
set_option linter.unusedVariables false
set_option linter.unusedSectionVars false
set_option linter.unusedSimpArgs false
set_option maxRecDepth 1000000
set_option maxHeartbeats 0
noncomputable section
namespace Go.Proofs.YtddkaehkimnklaaGreatDoor
open Go Go.Ab
abbrev ttTlaw37StatisticsEstimate0:=Unit×Unit×Unit×Unit×Int×Int×Unit
abbrev ttTlaw37StatisticsEstimate1:=Table×Value×Value×Stats×Unit
abbrev ttTlaw37StatisticsEstimate2:=Int×Value×Value×Stats
abbrev ttTlaw37StatisticsEstimate3:=Unit×Unit×Unit×Unit×Unit
abbrev ttTlaw37StatisticsEstimate4:=Unit×Unit×Unit×Unit
abbrev ttTlaw37StatisticsEstimate5:=Table×Value×Value×Unit
def zh0 (n_:Int) (i:Int) (t:Table) (v:Value) (w:Value) (s:Stats):Wy ttTlaw37StatisticsEstimate0 ttTlaw37StatisticsEstimate1 ttTlaw37StatisticsEstimate2:=.i (decide (i<Int.ofNat t.Rows.length)) (.i (decide (0≤i)&&decide (i<Int.ofNat t.Rows.length)) (.i (decide ((0:Int)≤(0:Int))&&decide (0<Int.ofNat (t.Rows.getD i.toNat default).Values.length)) (.bn (zet ((t.Rows.getD i.toNat default).Values.getD (Int.toNat 0) default) v) fun r0=>.i (decide (r0<0)) (.h ((),(),(),(),(IntKind.i64.wrap (n_+1)),(IntKind.i64.wrap (i+1)),()) (t,v,w,s,())) (.h ((),(),(),(),n_,(IntKind.i64.wrap (i+1)),()) (t,v,w,s,()))) .d) .d) (.k (n_,v,w,s))
def zfT (x:ttTlaw37StatisticsEstimate0) (y:ttTlaw37StatisticsEstimate1):Wy ttTlaw37StatisticsEstimate0 ttTlaw37StatisticsEstimate1 ttTlaw37StatisticsEstimate2:=zh0 x.2.2.2.2.1 x.2.2.2.2.2.1 y.1 y.2.1 y.2.2.1 y.2.2.2.1
def zh3 (n:Nat) (n_:Int) (i:Int) (t:Table) (v:Value) (w:Value) (s:Stats):Bool×ttTlaw37StatisticsEstimate2:=zO (zfT) default n ((),(),(),(),n_,i,()) (t,v,w,s,())
def zkU (r:ttTlaw37StatisticsEstimate2):LTree ty:=.done (.exit 0) [.ptr 416 0,.ptr 417 0,.ptr 418 0,.lit (.int .i64 r.1)] [.box (base.enc 40 r.2.1) false,.box (base.enc 40 r.2.2.1) false,.box (base.enc 30 r.2.2.2) false]
def zlb:LL ty ttTlaw37StatisticsEstimate0:=za (zcF 416 0) (za (zcF 417 0) (za (zcF 418 0) (za (zcF 419 0) (za (lInt .i64) (za (lInt .i64) zF)))))
def zld:BL ty ttTlaw37StatisticsEstimate1:=bBox (zex (fun x=>(⟨x.1,x.2.1,x.2.2.1,x.2.2.2.1⟩:Table)) (fun x=>(x.ID,x.Name,x.Columns,x.Rows,())) (fun _=>rfl) (za (lInt .i64) (za lStr (za (lSl 67) (za (lSl 38) zF))))) false (bBox (zex (fun x=>(⟨x.1,x.2.1,x.2.2.1⟩:Value)) (fun x=>(x.Kind,x.Int,x.Text,())) (fun _=>rfl) (za (lInt .i64) (za (lInt .i64) (za lStr zF)))) false (bBox (zex (fun x=>(⟨x.1,x.2.1,x.2.2.1⟩:Value)) (fun x=>(x.Kind,x.Int,x.Text,())) (fun _=>rfl) (za (lInt .i64) (za (lInt .i64) (za lStr zF)))) false (bBox (zex (fun x=>(⟨x.1,x.2.1,x.2.2.1⟩:Stats)) (fun x=>(x.Table,x.Rows,x.Columns,())) (fun _=>rfl) (za (lInt .i64) (za (lInt .i64) (za (lSl 43) zF)))) false (bNil))))
def ziw (t:Table) (v:Value) (w:Value) (s:Stats):Wy ttTlaw37StatisticsEstimate3 ttTlaw37StatisticsEstimate1 (Bool):=.bn (zh3 (Int.toNat 0+Int.toNat 0+t.Columns.length+t.Rows.length+s.Columns.length+1000) 0 0 t v w s) fun r5=>.bn (zcK r5.2.2.2 (Scalar.mk (zc9 7 r5.2.1).2.Kind (zc9 7 r5.2.1).2.Column (zc9 7 r5.2.1).2.Value (zc9 7 r5.2.1).2.Op (zc9 7 r5.2.1).2.Args)) fun r4=>.bn (zcK r5.2.2.2 (Scalar.mk (zc9 7 r5.2.2.1).2.Kind (zc9 7 r5.2.2.1).2.Column (zc9 7 r5.2.2.1).2.Value (zc9 7 r5.2.2.1).2.Op (zc9 7 r5.2.2.1).2.Args)) fun r3=>.i (decide (IntKind.i64.wrap (r4*r5.2.2.2.Rows)≤IntKind.i64.wrap (1000*r5.1))) (.i (decide (IntKind.i64.wrap (1000*r5.1)<IntKind.i64.wrap (IntKind.i64.wrap (r4+125)*r5.2.2.2.Rows))) (.bn (zet r5.2.1 r5.2.2.1) fun r2=>.i (decide (r2>0)) (.k true) (.k (decide (r4≤r3)))) (.k false)) (.k false)
def zgv (x:ttTlaw37StatisticsEstimate3) (y:ttTlaw37StatisticsEstimate1):Wy ttTlaw37StatisticsEstimate3 ttTlaw37StatisticsEstimate1 (Bool):=ziw y.1 y.2.1 y.2.2.1 y.2.2.2.1
def zmj (n:Nat) (t:Table) (v:Value) (w:Value) (s:Stats):Bool×Bool:=zO (zgv) default n ((),(),(),(),()) (t,v,w,s,())
def zk4 (r:Bool):LTree ty:=.done .ret [.lit (.bool r)] []
def zma:LL ty ttTlaw37StatisticsEstimate3:=za (zcF 416 0) (za (zcF 417 0) (za (zcF 418 0) (za (zcF 419 0) zF)))
def zl7:BL ty ttTlaw37StatisticsEstimate1:=bBox (zex (fun x=>(⟨x.1,x.2.1,x.2.2.1,x.2.2.2.1⟩:Table)) (fun x=>(x.ID,x.Name,x.Columns,x.Rows,())) (fun _=>rfl) (za (lInt .i64) (za lStr (za (lSl 67) (za (lSl 38) zF))))) false (bBox (zex (fun x=>(⟨x.1,x.2.1,x.2.2.1⟩:Value)) (fun x=>(x.Kind,x.Int,x.Text,())) (fun _=>rfl) (za (lInt .i64) (za (lInt .i64) (za lStr zF)))) false (bBox (zex (fun x=>(⟨x.1,x.2.1,x.2.2.1⟩:Value)) (fun x=>(x.Kind,x.Int,x.Text,())) (fun _=>rfl) (za (lInt .i64) (za (lInt .i64) (za lStr zF)))) false (bBox (zex (fun x=>(⟨x.1,x.2.1,x.2.2.1⟩:Stats)) (fun x=>(x.Table,x.Rows,x.Columns,())) (fun _=>rfl) (za (lInt .i64) (za (lInt .i64) (za (lSl 43) zF)))) false (bNil))))
def zis (t:Table) (v:Value) (w:Value):Wy ttTlaw37StatisticsEstimate4 ttTlaw37StatisticsEstimate5 (Bool):=.bn (zjf t) fun r11=>.i (r11.Rows==0) (.k true) (.i (r11.Rows != Int.ofNat t.Rows.length) (.k true) (.bn (zmj 1 t v w r11) fun r10=>.k r10))
def zgo (x:ttTlaw37StatisticsEstimate4) (y:ttTlaw37StatisticsEstimate5):Wy ttTlaw37StatisticsEstimate4 ttTlaw37StatisticsEstimate5 (Bool):=zis y.1 y.2.1 y.2.2.1
def zl9 (n:Nat) (t:Table) (v:Value) (w:Value):Bool×Bool:=zO (zgo) default n ((),(),(),()) (t,v,w,())
def zlI (r:Bool):LTree ty:=.done .ret [.lit (.bool r)] []
def zmm:LL ty ttTlaw37StatisticsEstimate4:=za (zcF 416 0) (za (zcF 417 0) (za (zcF 418 0) zF))
def zlV:BL ty ttTlaw37StatisticsEstimate5:=bBox (zex (fun x=>(⟨x.1,x.2.1,x.2.2.1,x.2.2.2.1⟩:Table)) (fun x=>(x.ID,x.Name,x.Columns,x.Rows,())) (fun _=>rfl) (za (lInt .i64) (za lStr (za (lSl 67) (za (lSl 38) zF))))) false (bBox (zex (fun x=>(⟨x.1,x.2.1,x.2.2.1⟩:Value)) (fun x=>(x.Kind,x.Int,x.Text,())) (fun _=>rfl) (za (lInt .i64) (za (lInt .i64) (za lStr zF)))) false (bBox (zex (fun x=>(⟨x.1,x.2.1,x.2.2.1⟩:Value)) (fun x=>(x.Kind,x.Int,x.Text,())) (fun _=>rfl) (za (lInt .i64) (za (lInt .i64) (za lStr zF)))) false (bNil)))
def ziD (t:Table) (v:Value) (w:Value):Wy ttTlaw37StatisticsEstimate4 ttTlaw37StatisticsEstimate5 (Bool):=.bn (ztf t) fun r15=>.i (!r15) (.k true) (.i (decide (Int.ofNat v.Text.size>300)) (.k true) (.i (decide (Int.ofNat w.Text.size>300)) (.k true) (.i (Int.ofNat t.Columns.length==0) (.k true) (.bn (zl9 1 t v w) fun r14=>.k r14))))
def zgp (x:ttTlaw37StatisticsEstimate4) (y:ttTlaw37StatisticsEstimate5):Wy ttTlaw37StatisticsEstimate4 ttTlaw37StatisticsEstimate5 (Bool):=ziD y.1 y.2.1 y.2.2.1
def zmi (n:Nat) (t:Table) (v:Value) (w:Value):Bool×Bool:=zO (zgp) default n ((),(),(),()) (t,v,w,())
def zlr (r:Bool):LTree ty:=.done .ret [.lit (.bool r)] []
def zmn:LL ty ttTlaw37StatisticsEstimate4:=za (zcF 416 0) (za (zcF 417 0) (za (zcF 418 0) zF))
def zmo:BL ty ttTlaw37StatisticsEstimate5:=bBox (zex (fun x=>(⟨x.1,x.2.1,x.2.2.1,x.2.2.2.1⟩:Table)) (fun x=>(x.ID,x.Name,x.Columns,x.Rows,())) (fun _=>rfl) (za (lInt .i64) (za lStr (za (lSl 67) (za (lSl 38) zF))))) false (bBox (zex (fun x=>(⟨x.1,x.2.1,x.2.2.1⟩:Value)) (fun x=>(x.Kind,x.Int,x.Text,())) (fun _=>rfl) (za (lInt .i64) (za (lInt .i64) (za lStr zF)))) false (bBox (zex (fun x=>(⟨x.1,x.2.1,x.2.2.1⟩:Value)) (fun x=>(x.Kind,x.Int,x.Text,())) (fun _=>rfl) (za (lInt .i64) (za (lInt .i64) (za lStr zF)))) false (bNil)))
def zkP (x:ttTlaw37StatisticsEstimate0) (y:ttTlaw37StatisticsEstimate1):Nat:=(Int.toNat x.2.2.2.2.1+Int.toNat x.2.2.2.2.2.1+y.1.Columns.length+y.1.Rows.length+y.2.2.2.1.Columns.length+1000)
def zd7:Cx ty:=zHb base0 104 [(10,zvA),(11,zyh),(12,zkM),(16,znU),(19,ziA),(21,zn6)] [] [(10,[(3,.keep),(4,.keep),(5,.keep),(7,.keep),(8,.keep),(9,.keep)]),(3,[(3,.keep),(4,.keep),(5,.keep)]),(5,[(3,.keep),(4,.keep),(5,.keep)]),(8,[(3,.keep),(4,.keep),(5,.keep),(7,.keep)])] [(10,1,[(4,.keep),(5,.keep),(7,.keep),(8,.keep)]),(3,0,[(6,.keep)]),(5,0,[(6,.keep)]),(8,0,[(6,.keep)])] [(10,spW zlb zld (zfT) default zkU zkP)] [] [(8,spW zma zl7 (zgv) default zk4 fun x y=>(1)),(5,spW zmm zlV (zgo) default zlI fun x y=>(1)),(3,spW zmn zmo (zgp) default zlr fun x y=>(1))]
theorem zr4:zX zd7 (lp (body Tryz.f6) 0):=zN (id:=10) (V:=zlb) (B:=zld) (W:=zfT) (z:=default) (tr:=zkU) (m:=zkP)
theorem zsz:zxZ zd7 (jn (body Tryz.f6) 8):=zBX (id:=8) (V:=zma) (B:=zl7) (W:=zgv) (z:=default) (tr:=zk4) (m:=fun x y=>(1))
theorem zsG:zxZ zd7 (jn (body Tryz.f6) 5):=zBX (id:=5) (V:=zmm) (B:=zlV) (W:=zgo) (z:=default) (tr:=zlI) (m:=fun x y=>(1))
theorem zsK:zxZ zd7 (jn (body Tryz.f6) 3):=zBX (id:=3) (V:=zmn) (B:=zmo) (W:=zgp) (z:=default) (tr:=zlr) (m:=fun x y=>(1))
def ziU (t:Table) (v:Value) (w:Value):Wy0 (Bool):=.bn (zmi 1 t v w) fun r18=>.k r18
def zdP (t:Table) (v:Value) (w:Value):Bool×Bool:=(ziU t v w).fin default
def zh8 (r:Bool):ARes ty:=⟨[.pure (.lit (.bool r))],[]⟩
def zmZ:AL base0 ttTlaw37StatisticsEstimate5:=zf (zg (vAgg 25)) (zf (zg (vAgg 40)) (zf (zg (vAgg 40)) aNil))
def zhG:Ab.Spec ty:=zn zmZ fun x=>((zdP x.1 x.2.1 x.2.2.1).1,zh8 (zdP x.1 x.2.1 x.2.2.1).2)
theorem zrf:Sound Tryz.prog base0 6 zhG:=
 zy (cx':=zd7) zH zsA zJL (zIR ⟨zBa,zCG.nodr,zoP.nodr,zsa.nodr,zlF.nodr,zr9.nodr,trivial⟩) Tryz.call6 Tryz.func6 (c:=body Tryz.f6) (by kernel_rfl) (zEm (l:=[lp (body Tryz.f6) 0]) (by kernel_rfl) ⟨zr4,trivial⟩ (js:=[jn (body Tryz.f6) 3,jn (body Tryz.f6) 5,jn (body Tryz.f6) 8]) (by kernel_rfl) ⟨zsK,zsG,zsz,trivial⟩) (sg:=⟨[.pure],[]⟩) (A:=zmZ) (res:=zh8) (W:=fun x=>ziU x.1 x.2.1 x.2.2.1) (z:=default)
def trV (v:Value):TT:=.l [.i v.Kind,.i v.Int,trB v.Text]
mutual
def zCe:Atom→TT
 | ⟨k,r,a,f,i,o,b⟩=>.l [.i k,.i r.Table,.i r.Seq,.l (zvP a),.i f,.l (zsy i),.i o,trV b]
def zy2:Factor→TT
 | ⟨x,e⟩=>.l [zCe x,.i e]
def zn9:List Factor→List TT
 | []=>[]
 | x::r=>zy2 x::zn9 r
def zCu:Term→TT
 | ⟨c,fs⟩=>.l [.l (zn9 fs),.i c]
def zwo:List Term→List TT
 | []=>[]
 | x::r=>zCu x::zwo r
def zvP:List (List Term)→List TT
 | []=>[]
 | x::r=>.l (zwo x)::zvP r
def zC1:Weighted→TT
 | ⟨v,a⟩=>.l [trV v,.l (zwo a)]
def zsy:List Weighted→List TT
 | []=>[]
 | x::r=>zC1 x::zsy r
end
theorem zub:∀ a b:List UInt8,(a.map fun x=>TT.i (x.toNat:Int))=(b.map fun x=>TT.i (x.toNat:Int))→a=b
 | [],[]=>fun _=>rfl
 | [],_::_=>fun h=>by simp at h
 | _::_,[]=>fun h=>by simp at h
 | x::a,y::b=>fun h=>by
  simp only [List.map,List.cons.injEq,TT.i.injEq] at h
  rw [zub a b h.2,UInt8.toNat_inj.1 (Int.ofNat.inj h.1)]
theorem zDq {a b:Value} (h:trV a=trV b):a=b:=by
 obtain ⟨k,n,s⟩:=a; obtain ⟨k',n',s'⟩:=b
 simp only [trV,trB,TT.l.injEq,List.cons.injEq,TT.i.injEq,and_true] at h
 obtain ⟨rfl,rfl,h⟩:=h
 have:=zub _ _ h
 obtain ⟨⟨l⟩⟩:=s; obtain ⟨⟨l'⟩⟩:=s'
 simp only at this; subst this; rfl
mutual
theorem zGS:∀ a b:Atom,zCe a=zCe b→a=b
 | ⟨k,r,a,f,i,o,v⟩,⟨k',r',a',f',i',o',v'⟩=>fun h=>by
  simp only [zCe,TT.l.injEq,List.cons.injEq,TT.i.injEq,and_true] at h
  obtain ⟨rfl,h1,h2,h3,rfl,h4,rfl,h5⟩:=h
  obtain ⟨t,s⟩:=r; obtain ⟨t',s'⟩:=r'
  simp only at h1 h2; subst h1 h2
  rw [zCy a a' h3,zBE i i' h4,zDq h5]
theorem zEY:∀ a b:Factor,zy2 a=zy2 b→a=b
 | ⟨x,e⟩,⟨x',e'⟩=>fun h=>by
  simp only [zy2,TT.l.injEq,List.cons.injEq,TT.i.injEq,and_true] at h
  rw [zGS x x' h.1,h.2]
theorem zzs:∀ a b:List Factor,zn9 a=zn9 b→a=b
 | [],[]=>fun _=>rfl
 | [],_::_=>fun h=>by simp [zn9] at h
 | _::_,[]=>fun h=>by simp [zn9] at h
 | x::a,y::b=>fun h=>by
  simp only [zn9,List.cons.injEq] at h
  rw [zEY x y h.1,zzs a b h.2]
theorem zGP:∀ a b:Term,zCu a=zCu b→a=b
 | ⟨c,l⟩,⟨c',l'⟩=>fun h=>by
  simp only [zCu,TT.l.injEq,List.cons.injEq,TT.i.injEq,and_true] at h
  rw [zzs l l' h.1,h.2]
theorem zzS:∀ a b:List Term,zwo a=zwo b→a=b
 | [],[]=>fun _=>rfl
 | [],_::_=>fun h=>by simp [zwo] at h
 | _::_,[]=>fun h=>by simp [zwo] at h
 | x::a,y::b=>fun h=>by
  simp only [zwo,List.cons.injEq] at h
  rw [zGP x y h.1,zzS a b h.2]
theorem zCy:∀ a b:List (List Term),zvP a=zvP b→a=b
 | [],[]=>fun _=>rfl
 | [],_::_=>fun h=>by simp [zvP] at h
 | _::_,[]=>fun h=>by simp [zvP] at h
 | x::a,y::b=>fun h=>by
  simp only [zvP,List.cons.injEq,TT.l.injEq] at h
  rw [zzS x y h.1,zCy a b h.2]
theorem zGV:∀ a b:Weighted,zC1 a=zC1 b→a=b
 | ⟨c,l⟩,⟨c',l'⟩=>fun h=>by
  simp only [zC1,TT.l.injEq,List.cons.injEq,and_true] at h
  rw [zDq h.1,zzS l l' h.2]
theorem zBE:∀ a b:List Weighted,zsy a=zsy b→a=b
 | [],[]=>fun _=>rfl
 | [],_::_=>fun h=>by simp [zsy] at h
 | _::_,[]=>fun h=>by simp [zsy] at h
 | x::a,y::b=>fun h=>by
  simp only [zsy,List.cons.injEq] at h
  rw [zGV x y h.1,zBE a b h.2]
end
def zyY (P:List Term→Prop) (x:Atom):Prop:=
 (x.Args.length≤1000000∧x.Items.length≤1000000∧x.Bound.Text.size≤1000000000000)∧(∀ a∈x.Args,P a)∧∀ w∈x.Items,w.Value.Text.size≤1000000000000∧P w.Ann
def zF1 (P:List Term→Prop) (l:List Factor):Prop:=l.length≤1000000∧∀ f∈l,zyY P f.Atom
def zjL:Nat→List Term→Prop
 | 0,_=>False
 | n+1,a=>a.length≤1000000∧∀ t∈a,zF1 (zjL n) t.Factors
theorem zyY.imp {P Q:List Term→Prop} (h:∀ a,P a→Q a) {x:Atom} (hx:zyY P x):zyY Q x:=⟨hx.1,fun a ha=>h a (hx.2.1 a ha),fun w hw=>⟨(hx.2.2 w hw).1,h _ (hx.2.2 w hw).2⟩⟩
theorem zjL.succ:∀ (n:Nat) (a:List Term),zjL n a→zjL (n+1) a
 | 0,_,h=>h.elim
 | n+1,a,h=>⟨h.1,fun t ht=>⟨(h.2 t ht).1,fun f hf=>((h.2 t ht).2 f hf).imp (zjL.succ n)⟩⟩
theorem zjL.mono {n m:Nat} {a:List Term} (h:zjL n a) (hm:n≤m):zjL m a:=by
 obtain ⟨k,rfl⟩:=Nat.exists_eq_add_of_le hm
 clear hm
 induction k with
 | zero=>exact h
 | succ k ih=>exact zjL.succ _ _ ih
theorem zAP (x y:Int):zdg x y=(true,cmpI x y):=by
 unfold zdg zo3 zkn zrs cmpI
 by_cases h1:x<y
 ·simp [h1,Wy.fin_i,Wy.fin_k]
 ·by_cases h2:y<x <;>simp [h1,h2,Wy.fin_i,Wy.fin_k]
theorem zyo (x y:Int):zhx x y=(true,cmpI x y):=by
 unfold zhx zna ziQ zpd cmpI
 by_cases h1:x<y
 ·simp [h1,Wy.fin_i,Wy.fin_k]
 ·by_cases h2:y<x <;>simp [h1,h2,Wy.fin_i,Wy.fin_k]
def zsE:List Int→Int
 | []=>0
 | x::r=>if x=0 then zsE r else x
theorem zGE (l:List Int) (hl:l.length≤1000000):∀ (n i:Nat),l.length<i+n→i≤l.length→∃ r,zt3 n 0 l l.length i=(true,r)∧(r=.inl (zsE (l.drop i))∨(r=.inr 0∧zsE (l.drop i)=0))
 | 0,i,h,h2=>by omega
 | n+1,i,h,h2=>by
  show ∃ r,(ztW 0 l l.length i).ev (fun x y=>zt3 n x.1 x.2.1 x.2.2.1 x.2.2.2.1) (fun r=>(true,r)) (false,.inl default)=(true,r)∧_
  unfold ztW
  by_cases hi:i<l.length
  ·simp only [Wy.ev_i,Wy.ev_k,Wy.ev_h,Int.ofNat_eq_natCast,zAH,zDf,decide_true,decide_false,Bool.and_self,Bool.true_and,Bool.and_true,cond_true,cond_false,Int.toNat_natCast,Bool.not_true,Bool.not_false,hi]
   obtain ⟨r,h1,h3⟩:=zGE l hl n (i+1) (by omega) (by omega)
   rw [zjN hi,zcs (by omega),h1]
   generalize l.getD i default=x
   by_cases hx:x=0
   ·have e:(x != 0)=false:=by simp [hx]
    simp only [e,cond_false,zsE,hx,if_true]
    exact ⟨r,rfl,h3⟩
   ·have e:(x != 0)=true:=by simp [hx]
    simp only [e,cond_true,zsE,hx,if_false]
    exact ⟨_,rfl,.inl rfl⟩
  ·simp only [Wy.ev_i,Wy.ev_k,Wy.ev_h,Int.ofNat_eq_natCast,zAH,zDf,decide_true,decide_false,Bool.and_self,Bool.true_and,Bool.and_true,cond_true,cond_false,Int.toNat_natCast,Bool.not_true,Bool.not_false,hi,zjR hi]
   exact ⟨_,rfl,.inr ⟨rfl,rfl⟩⟩
theorem zEl (l:List Int) (hl:l.length≤1000000):zjn l=(true,zsE l):=by
 unfold zjn zu6
 obtain ⟨r,h1,h2⟩:=zGE l hl (Int.toNat 0+l.length+(Int.ofNat l.length).toNat +Int.toNat 0+1000) 0 (by simp; omega) (by omega)
 rw [show ((0:Nat):Int)=(0:Int) from rfl] at h1
 rw [Wy.fin_bn,show Int.ofNat l.length=(l.length:Int) from rfl] at *
 rw [h1]
 rw [List.drop_zero] at h2
 rcases h2 with rfl | ⟨rfl,h2⟩
 ·rfl
 ·rw [h2]; rfl
theorem zBh (s:ByteArray):∀ (n i:Nat) (r:List UInt8),s.size≤i+n→ByteArray.toList.loop s i r=r.reverse++s.data.toList.drop i
 | 0,i,r,h=>by
  rw [ByteArray.toList.loop,if_neg (by omega),List.drop_eq_nil_of_le (by rw [← Lib.size_eq]; omega),List.append_nil]
 | n+1,i,r,h=>by
  rw [ByteArray.toList.loop]
  by_cases hi:i<s.size
  ·have hi':i<s.data.toList.length:=by rw [← Lib.size_eq]; exact hi
   rw [if_pos hi,zBh s n (i+1) _ (by omega),List.drop_eq_getElem_cons hi',List.reverse_cons,List.append_assoc]
   congr 1
   have:s.get! i=s.data.toList[i]:=by
    have h':i<s.data.size:=hi
    show s.data[i]! =s.data.toList[i]
    rw [getElem!_pos s.data i h']; rfl
   rw [this]; rfl
  ·rw [if_neg hi,List.drop_eq_nil_of_le (by rw [← Lib.size_eq]; omega),List.append_nil]
theorem toList_eq (s:ByteArray):s.toList=s.data.toList:=by
 rw [ByteArray.toList,zBh s s.size 0 [] (by omega)]; rfl
theorem zAO {s t:ByteArray} (h:s.data.toList=t.data.toList):s=t:=by
 cases s; cases t
 congr 1
 exact Array.toList_inj.1 h
theorem zHj (s t:ByteArray):(s.toList==t.toList)=decide (s.data.toList=t.data.toList):=by
 rw [toList_eq,toList_eq]
 cases hb:(s.data.toList==t.data.toList) with
 | true=>rw [decide_eq_true (beq_iff_eq.1 hb)]
 | false=>rw [decide_eq_false (fun h=>by rw [beq_iff_eq.2 h] at hb; cases hb)]
theorem ztL (s t:ByteArray):(s.toList==t.toList)=decide (s=t):=by
 rw [zHj]
 by_cases h:s=t
 ·rw [decide_eq_true h,decide_eq_true (by rw [h])]
 ·rw [decide_eq_false h,decide_eq_false fun e=>h (zAO e)]
theorem bne0 (z w:Int):(z != w)= !decide (z=w):=by by_cases h:z=w <;>simp [h]
theorem zzm:∀ a b:List UInt8,Op.bytesLess a b=decide (Lib.compareBytes a b<0)
 | [],[]=>by simp [Op.bytesLess,Lib.compareBytes]
 | _::_,[]=>by simp [Op.bytesLess,Lib.compareBytes]
 | [],_::_=>by simp [Op.bytesLess,Lib.compareBytes]
 | x::a,y::b=>by
  simp only [Op.bytesLess,Lib.compareBytes]
  by_cases p:x<y
  ·simp [p]
  ·by_cases q:y<x
   ·have hne:¬ x=y:=fun e=>by subst e; exact p q
    simp [p,q,hne]
   ·have he:x=y:=UInt8.toNat_inj.1 (by rw [UInt8.lt_iff_toNat_lt] at p q; omega)
    subst he
    simp [p,zzm a b]
theorem zBU (a b:Value):zet a b=(true,cmpT (trV a) (trV b)):=by
 unfold zet zrA zms zvt
 rw [ztL,toList_eq,toList_eq,zzm,zGB]
 simp only [trV,cmpT,cmpL,cmpI]
 simp only [Wy.fin_i,Wy.fin_bn,Wy.fin_k,cond_true,bne0]
 by_cases h1:a.Kind=b.Kind
 ·by_cases h2:a.Int=b.Int
  ·by_cases h3:a.Text=b.Text
   ·simp [h1,h2,h3,zEb]
   ·have h4:cmpT (trB a.Text) (trB b.Text)≠0:=fun e=>by
     have:=zub _ _ (TT.l.inj (zuZ _ _ e))
     exact h3 (zAO this)
    have h5:=zES (trB a.Text) (trB b.Text)
    simp only [trB,cmpT] at h4 h5
    simp only [trB,cmpT]
    rcases h5 with h5 | h5 | h5
    ·simp [h1,h2,h3,h5]
    ·exact absurd h5 h4
    ·simp [h1,h2,h3,h5]
  ·by_cases h3:a.Int<b.Int
   ·simp [h1,h2,h3]
   ·simp [h1,h2,h3,show b.Int<a.Int by omega]
 ·by_cases h3:a.Kind<b.Kind
  ·simp [h1,h3]
  ·simp [h1,h3,show b.Kind<a.Kind by omega]
theorem zBY (a b:Value):zbc a b=(true,cmpT (trV a) (trV b)):=by
 unfold zbc zrq
 have h:(strings_Compare a.Text b.Text).2=cmpT (trB a.Text) (trB b.Text):=by rw [← zGB]; rfl
 simp only [zAP,zyo,Wy.fin_bn,cond_true,h]
 rw [zEl _ (by simp)]
 simp only [Wy.fin_k,cond_true,trV,cmpT,cmpL,zsE]
 rfl
theorem zcq {z:Int} (h0: -4611686018427387904≤z) (h:z<4611686018427387904):IntKind.i64.wrap z=z:=zDz (by omega) (by omega)
def allN (c:Nat→Bool):Nat→Nat→Bool
 | 0,_=>true
 | n+1,i=>c i&&allN c n (i+1)
theorem zB1 {c:Nat→Bool}:∀ {n i},allN c n i=true↔∀ k,i≤k→k<i+n→c k=true
 | 0,i=>⟨fun _ k h1 h2=>by omega,fun _=>rfl⟩
 | n+1,i=>by
  simp only [allN,Bool.and_eq_true,zB1 (n:=n)]
  constructor
  ·rintro ⟨h1,h2⟩ k h3 h4
   by_cases e:k=i
   ·rw [e]; exact h1
   ·exact h2 k (by omega) (by omega)
  ·intro h
   exact ⟨h i (by omega) (by omega),fun k h1 h2=>h k (by omega) (by omega)⟩
theorem zFH {τ:Type} [Inhabited τ] (p:τ→Bool) (l:List τ):∀ n i,i+n=l.length→allN (fun k=>p (l.getD k default)) n i=(l.drop i).all p
 | 0,i,h=>by rw [zjR (by omega)]; rfl
 | n+1,i,h=>by
  rw [zjN (by omega),List.all_cons]
  simp only [allN,zFH p l n (i+1) (by omega)]
theorem zHM {τ:Type} [Inhabited τ] (p:τ→Bool) (l:List τ):allN (fun k=>p (l.getD k default)) l.length 0=l.all p:=by
 rw [zFH p l _ _ (by omega),List.drop_zero]
section
variable {α β ρ:Type}
theorem zE6 {W:α→β→Wy α β ρ} {z:ρ} (N:Nat) (ex:Nat→α) (ey:Nat→β) (c:Nat→Bool) (no yes:ρ)
  (h:∀ i,i<N→∀ (H:α→β→Bool×ρ) K D,(W (ex i) (ey i)).ev H K D=bif c i then H (ex (i+1)) (ey (i+1)) else K no)
  (he:∀ (H:α→β→Bool×ρ) K D,(W (ex N) (ey N)).ev H K D=K yes):
  ∀ n i,N<i+n→i≤N→zO W z n (ex i) (ey i)=(true,bif allN c (N - i) i then yes else no)
 | 0,i,h1,h2=>by omega
 | n+1,i,h1,h2=>by
  show (W (ex i) (ey i)).ev (zO W z n) (fun r=>(true,r)) (false,z)=_
  by_cases hi:i<N
  ·rw [h i hi,show N - i=(N - (i+1))+1 by omega]
   simp only [allN]
   cases c i with
   | false=>rfl
   | true=>rw [cond_true,zE6 N ex ey c no yes h he n (i+1) (by omega) (by omega)]; rfl
  ·have:i=N:=by omega
   subst this
   rw [he,Nat.sub_self]; rfl
theorem zIi {W:α→β→Wy α β ρ} {z:ρ} (N:Nat) (ex:Nat→α) (ey:Nat→β) (c:Nat→Bool) (no yes:ρ)
  (h:∀ i,i<N→∀ (H:α→β→Bool×ρ) K D,(W (ex i) (ey i)).ev H K D=bif c i then H (ex (i+1)) (ey (i+1)) else K no)
  (he:∀ (H:α→β→Bool×ρ) K D,(W (ex N) (ey N)).ev H K D=K yes) (n:Nat) (hn:N<n):zO W z n (ex 0) (ey 0)=(true,bif allN c N 0 then yes else no):=by
 have:=zE6 (z:=z) N ex ey c no yes h he n 0 (by omega) (by omega)
 simpa using this
end
def ixf {α:Type} (p:α→Bool):List α→Nat→Int
 | [],_=> -1
 | x::r,i=>bif p x then (i:Int) else ixf p r (i+1)
theorem zGe {α:Type} (p:α→Bool):∀ (l:List α) (i:Nat),decide (ixf p l i≥(0:Int))=l.any p
 | [],i=>by simp [ixf]
 | x::r,i=>by
  rw [List.any_cons]
  cases h:p x with
  | true=>simp [ixf,h]
  | false=>simpa [ixf,h] using zGe p r (i+1)
section
variable {α γ:Type} [Inhabited α]
def zG2 (p:γ→α→Bool×Bool) (s:List α) (g:γ) (t7:Int) (t8:Int):Wy (List α×γ×Int×Int×Unit) (Unit) (Int⊕Unit):=.i (decide (t8<t7)) (.i (decide ((0:Int)≤t8)&&decide (t8<Int.ofNat s.length)) (.bn (p g (s.getD t8.toNat default)) fun r0=>.i (r0) (.k (.inl t8)) (.h (s,g,t7,(IntKind.i64.wrap (t8+(1:Int))),()) ())) .d) (.k (.inr ()))
def zKP (p:γ→α→Bool×Bool) (x:List α×γ×Int×Int×Unit) (y:Unit):Wy (List α×γ×Int×Int×Unit) (Unit) (Int⊕Unit):=zG2 p x.1 x.2.1 x.2.2.1 x.2.2.2.1
def zHp (p:γ→α→Bool×Bool) (n:Nat) (s:List α) (g:γ) (t7:Int) (t8:Int):Bool×(Int⊕Unit):=zO (zKP p) (.inl default) n (s,g,t7,t8,()) ()
def IG (p:γ→α→Bool×Bool) (n:Nat) (g:γ) (s:List α):Bool×Int:=(.bn (zHp p n s g (Int.ofNat s.length) (0:Int)) fun r2=>.i (isL r2) (.k (getL r2)) (.k (-1:Int)):Wy0 Int).fin default
theorem zGl (p:γ→α→Bool×Bool) (P:α→Bool) (g:γ) (s:List α) (hs:s.length≤1000000000) (hp:∀ x∈s,p g x=(true,P x)):∀ (n i:Nat),s.length<i+n→i≤s.length→
  ∃ r,zHp p n s g s.length i=(true,r)∧((r=.inl (ixf P (s.drop i) i))∨(r=.inr ()∧ixf P (s.drop i) i= -1))
 | 0,i,h,h2=>by omega
 | n+1,i,h,h2=>by
  show ∃ r,(zG2 p s g s.length i).ev (fun x y=>zHp p n x.1 x.2.1 x.2.2.1 x.2.2.2.1) (fun r=>(true,r)) (false,.inl default)=(true,r)∧_
  unfold zG2
  by_cases hi:i<s.length
  ·simp only [Wy.ev_i,Wy.ev_k,Wy.ev_h,Wy.ev_bn,Wy.ev_d,tT,hi,hp _ (zc6 hi)]
   rw [zjN hi,zcs (by omega)]
   simp only [ixf]
   cases P (s.getD i default) with
   | true=>exact ⟨_,rfl,.inl rfl⟩
   | false=>exact zGl p P g s hs hp n (i+1) (by omega) (by omega)
  ·simp only [Wy.ev_i,Wy.ev_k,Wy.ev_h,Wy.ev_bn,Wy.ev_d,tT,hi,zjR hi]
   exact ⟨_,rfl,.inr ⟨rfl,rfl⟩⟩
theorem zEA (p:γ→α→Bool×Bool) (P:α→Bool) (n:Nat) (g:γ) (s:List α) (hs:s.length≤1000000000) (hp:∀ x∈s,p g x=(true,P x)) (hn:s.length<n):IG p n g s=(true,ixf P s 0):=by
 unfold IG
 obtain ⟨r,h1,h2⟩:=zGl p P g s hs hp n 0 (by omega) (by omega)
 rw [show ((0:Nat):Int)=(0:Int) from rfl] at h1
 rw [Wy.fin_bn,show Int.ofNat s.length=(s.length:Int) from rfl,h1]
 rw [List.drop_zero] at h2
 rcases h2 with rfl | ⟨rfl,h2⟩
 ·rfl
 ·rw [h2]; rfl
theorem zs6 {α:Type} {s:List α} {P:α→Bool} {q:Bool×Int} (h:q=(true,ixf P s 0)):((.bn q fun r0=>.k (decide (r0≥(0:Int))):Wy0 Bool).fin default)=(true,s.any P):=by
 rw [h,Wy.fin_bn,cond_true,Wy.fin_k,zGe]
end
theorem beqd (a b:Int):(a==b)=decide (a=b):=by by_cases h:a=b <;>simp [h]
theorem beqn (a b:Nat):(a==b)=decide (a=b):=by by_cases h:a=b <;>simp [h]
theorem i0 (l:Nat):((l:Int)==0)=(l==0):=by
 rw [beqd,beqn]; congr 1; simp
def valV (v:Value):Bool:=(v.Kind==0&&v.Text.size==0)||(v.Kind==1&&v.Int==0&&decide (v.Text.size≤255))||(v.Kind==2&&v.Text.size==0&&(v.Int==0||v.Int==1))
theorem zIY (s:ByteArray):(s.toList==(ByteArray.mk #[]).toList)=(s.size==0):=by
 rw [ztL]
 by_cases h:s.size=0
 ·have:s=ByteArray.mk #[]:=zAO (by
   have:s.data.toList.length=0:=by simpa using h
   rw [List.length_eq_zero_iff.1 this])
  subst this; rfl
 ·have:¬ s=ByteArray.mk #[]:=fun e=>h (by rw [e]; rfl)
  simp [h,this]
theorem zsH (v:Value):zgH v=(true,valV v):=by
 unfold zgH zuf valV
 simp only [zIY,Wy.fin_i,Wy.fin_k,beqd,beqn]
 have e:decide (Int.ofNat v.Text.size≤(255:Int))=decide (v.Text.size≤255):=zmU _ 255
 rw [e]
 by_cases h0:v.Kind=0
 ·simp [h0]
 ·by_cases h1:v.Kind=1
  ·by_cases h2:v.Int=0 <;>simp [h1,h2]
  ·by_cases h2:v.Kind=2
   ·by_cases h3:v.Int=0
    ·simp [h2,h3]
    ·by_cases h4:v.Int=1 <;>simp [h2,h3,h4]
   ·simp [h0,h1,h2]
theorem zAF (c:Nat→Bool):∀ n i,allN c (n+1) i=(allN c n i&&c (i+n))
 | 0,i=>by simp [allN]
 | n+1,i=>by
  rw [allN,zAF c n (i+1),allN,show i+1+n=i+(n+1) by omega,Bool.and_assoc]
def cmpV (a b:Value):Int:=cmpT (trV a) (trV b)
theorem zlY (a b:Value):cmpV b a= - cmpV a b:=zwF _ _
theorem ztp (a b:Value):cmpV a b=0↔a=b:=⟨fun h=>zDq (zuZ _ _ h),fun h=>by subst h; exact zEb _⟩
theorem ordV:Ord3 cmpV where
 eq:=ztp
 swap x y:=by rw [zlY x y]; omega
 trans x y z h1 h2:=by
  have h3:cmpV x z≤0:=zyM _ _ _ (Int.le_of_lt h1) (Int.le_of_lt h2)
  by_cases h4:cmpV x z=0
  ·have:=(ztp x z).1 h4; subst this
   have:=zlY x y; omega
  ·omega
theorem value_Compare_eq' (a b:Value):zbc a b=(true,cmpV a b):=zBY a b
theorem ref01_Compare_eq' (a b:Value):zet a b=(true,cmpV a b):=zBU a b
theorem zzd {x y z:Value} (h1:cmpV x y≤0) (h2:cmpV y z≤0):cmpV x z≤0:=zyM _ _ _ h1 h2
theorem zHo {x y z:Value} (h1:cmpV x y<0) (h2:cmpV y z≤0):cmpV x z<0:=by
 by_cases h:cmpV x z=0
 ·have:=(ztp x z).1 h; subst this
  have:=zlY x y; omega
 ·have:=zzd (Int.le_of_lt h1) h2; omega
theorem zGW {x y z:Value} (h1:cmpV x y≤0) (h2:cmpV y z<0):cmpV x z<0:=by
 by_cases h:cmpV x z=0
 ·have:=(ztp x z).1 h; subst this
  have:=zlY x y; omega
 ·have:=zzd h1 (Int.le_of_lt h2); omega
abbrev AscV (l:List Value):Prop:=l.Pairwise fun x y=>cmpV x y≤0
def srtV (l:List Value):List Value:=zjw zbc l
theorem zDh {l:List Value} (h:l.length<4611686018427387904):SortOK zbc l:=zIb ordV h fun x _ y _=>value_Compare_eq' x y
theorem zJq {l:List Value}:Asc zbc l↔AscV l:=by
 have:(fun x y:Value=>¬ (zbc y x).2<0)=fun x y=>cmpV x y≤0:=by
  funext x y
  rw [value_Compare_eq',zlY x y]
  exact propext ⟨fun h=>by simp only at h; omega,fun h=>by simp only; omega⟩
 unfold Asc AscV
 rw [this]
theorem ztk (l:List Value):(srtV l).Perm l:=zmq _ l
theorem zBT {l:List Value} (h:l.length<4611686018427387904):AscV (srtV l):=zJq.1 (zAc (zDh h).ntrans (zDh h).asymm l fun _ h=>h)
theorem zwP (l:List Value):(srtV l).length=l.length:=(ztk l).length_eq
theorem zGk {n:Nat} (h:n≤1000001):n*32≤reach:=zp7 (by omega) (by omega)
def zx0 (l:List Value):Nat:=(adj (fun a b=>decide (a=b)) l).length
theorem zFo {α:Type} {l l':List α} (h:l.Nodup) (h':l'.Nodup) (hm:∀ x,x∈l↔x∈l'):l.length=l'.length:=
 Nat.le_antisymm (ze1 h fun x hx=>(hm x).1 hx) (ze1 h' fun x hx=>(hm x).2 hx)
theorem adjV (l:List Value) (h:AscV l):(adj (fun a b=>decide (a=b)) l).Nodup∧∀ x,x∈adj (fun a b=>decide (a=b)) l↔x∈l:=by
 cases l with
 | nil=>exact ⟨.nil,fun _=>Iff.rfl⟩
 | cons x r=>
  have hs:(x::r).Pairwise (fun a b=>¬ cmpV b a<0):=h.imp fun {a b} hab=>by have:=zlY a b; omega
  have:=zBq ordV (p:=fun a b=>decide (a=b)) (fun x y=>decide_eq_true_iff) r x hs
  refine ⟨zHu ordV this.1,fun z=>⟨fun hz=> ?_,fun hz=> ?_⟩⟩
  ·rcases List.mem_cons.1 hz with rfl | hz
   ·simp
   ·exact List.mem_cons_of_mem _ (zxc _ r x z hz)
  ·rcases List.mem_cons.1 hz with rfl | hz
   ·exact List.mem_cons_self
   ·rcases this.2 z hz with rfl | h
    ·exact List.mem_cons_self
    ·exact List.mem_cons_of_mem _ h
theorem zH4 {l d:List Value} (hl:l.length<4611686018427387904) (hd:d.Nodup) (hm:∀ x,x∈d↔x∈l):d.length=zx0 (srtV l):=by
 obtain ⟨h1,h2⟩:=adjV (srtV l) (zBT hl)
 exact zFo hd h1 fun x=>(hm x).trans (((ztk l).mem_iff).symm.trans (h2 x).symm)
theorem zD9 (v:Value):∀ (l:List Value),AscV l→∀ i,i<l.length→(cmpV (l.getD i default) v<0↔i<(l.filter fun x=>decide (cmpV x v<0)).length)
 | [],_,i,h=>by simp at h
 | x::r,h,i,hi=>by
  have h:=List.pairwise_cons.1 h
  by_cases hx:cmpV x v<0
  ·rw [List.filter_cons_of_pos (by simpa using hx),List.length_cons]
   cases i with
   | zero=>exact ⟨fun _=>by omega,fun _=>hx⟩
   | succ i=>
    rw [show (x::r).getD (i+1) default=r.getD i default from rfl,zD9 v r h.2 i (by simpa using hi)]
    omega
  ·have h0:∀ y∈r,¬ cmpV y v<0:=fun y hy hc=>hx (zGW (h.1 y hy) hc)
   have e:(x::r).filter (fun x=>decide (cmpV x v<0))=[]:=List.filter_eq_nil_iff.2 fun y hy=>by
    rcases List.mem_cons.1 hy with rfl | hy
    ·simpa using hx
    ·simpa using h0 y hy
   rw [e]
   refine ⟨fun hc=> ?_,fun hc=>absurd hc (by simp)⟩
   have hm:=zc6 hi
   rcases List.mem_cons.1 hm with e | hm
   ·rw [e] at hc; exact absurd hc hx
   ·exact absurd hc (h0 _ hm)
end Go.Proofs.YtddkaehkimnklaaGreatDoor
namespace Go.Proofs.YtddkaehkimnklaaGreatDoor
open Go Go.Ab
end Go.Proofs.YtddkaehkimnklaaGreatDoor
namespace Go.Proofs.YtddkaehkimnklaaGreatDoor
open Go Go.Ab
end Go.Proofs.YtddkaehkimnklaaGreatDoor
/- Conditions as trees that are small: the reference's counts end. -/
namespace Go.Proofs.YtddkaehkimnklaaGreatDoor
open Go Go.Ab
def zku:Nat→Scalar→Prop
 | 0,_=>False
 | n+1,e=>e.Args.length≤1000000∧∀ x∈e.Args,zku n x
theorem zku.succ:∀ (n:Nat) (e:Scalar),zku n e→zku (n+1) e
 | 0,_,h=>h.elim
 | n+1,e,h=>⟨h.1,fun x hx=>zku.succ n x (h.2 x hx)⟩
theorem zku.mono {n m:Nat} {e:Scalar} (h:zku n e) (hm:n≤m):zku m e:=by
 obtain ⟨k,rfl⟩:=Nat.exists_eq_add_of_le hm
 clear hm
 induction k with
 | zero=>exact h
 | succ k ih=>exact zku.succ _ _ ih
end Go.Proofs.YtddkaehkimnklaaGreatDoor
namespace Go.Proofs.YtddkaehkimnklaaGreatDoor
open Go Go.Ab
def zyv (s:Stats) (k:Int) (v:Value):Wy0 (Int):=.i (decide (0≤k)&&decide (k<Int.ofNat s.Columns.length)) (.i (s.Rows==0) (.k 0) (.bn (zet v (s.Columns.getD k.toNat default).Min) fun r1=>.i (decide (r1<0)) (.k 0) (.bn (zet v (s.Columns.getD k.toNat default).Max) fun r0=>.i (decide (r0>0)) (.k 0) (.i (!decide ((s.Columns.getD k.toNat default).Distinct=0)) (.k (if IntKind.i64.wrap (Int.tdiv 1000 (s.Columns.getD k.toNat default).Distinct)>1 then IntKind.i64.wrap (Int.tdiv 1000 (s.Columns.getD k.toNat default).Distinct) else 1)) .d)))) .d
def zp6 (s:Stats) (k:Int) (v:Value):Bool×Int:=(zyv s k v).fin default
abbrev zxi:=Int×Unit×Unit×Int×Int×Unit
abbrev zwS:=Stats×Value×Unit
def zw4 (k:Int) (n_:Int) (i:Int) (s:Stats) (v:Value):Wy zxi zwS (Int):=.i (decide (0≤k)&&decide (k<Int.ofNat s.Columns.length)) (.i (decide (i<Int.ofNat (s.Columns.getD k.toNat default).Bounds.length)) (.i (decide (0≤k)&&decide (k<Int.ofNat s.Columns.length)) (.i (decide (0≤i)&&decide (i<Int.ofNat (s.Columns.getD k.toNat default).Bounds.length)) (.bn (zet ((s.Columns.getD k.toNat default).Bounds.getD i.toNat default) v) fun r0=>.i (decide (r0<0)) (.h (k,(),(),(IntKind.i64.wrap (n_+125)),(IntKind.i64.wrap (i+1)),()) (s,v,())) (.h (k,(),(),n_,(IntKind.i64.wrap (i+1)),()) (s,v,()))) .d) .d) (.k n_)) .d
def zFV (x:zxi) (y:zwS):Wy zxi zwS (Int):=zw4 x.1 x.2.2.2.1 x.2.2.2.2.1 y.1 y.2.1
def zs1 (n:Nat) (k:Int) (n_:Int) (i:Int) (s:Stats) (v:Value):Bool×Int:=zO (zFV) default n (k,(),(),n_,i,()) (s,v,())
def zCK (s:Stats) (k:Int) (v:Value):Wy0 (Int):=.bn (zs1 (k.toNat +Int.toNat 0+Int.toNat 0+s.Columns.length+1000) k 0 0 s v) fun r2=>.k r2
def zvE (s:Stats) (k:Int) (v:Value):Bool×Int:=(zCK s k v).fin default
def zC2 (s:Stats) (k:Int) (v:Value):Wy0 (Int):=.bn (zvE s k v) fun r1=>.bn (zp6 s k v) fun r0=>.k (if IntKind.i64.wrap (r1+r0)<1000 then IntKind.i64.wrap (r1+r0) else 1000)
def zyy (s:Stats) (k:Int) (v:Value):Bool×Int:=(zC2 s k v).fin default
def zp5 (s:Stats) (op:Int) (k:Int) (v:Value):Wy0 (Int):=.i (op==5) (.bn (zp6 s k v) fun r0=>.k r0) (.i (op==6) (.bn (zp6 s k v) fun r1=>.k (IntKind.i64.wrap (1000 - r1))) (.i (op==7) (.bn (zvE s k v) fun r2=>.k r2) (.i (op==8) (.bn (zyy s k v) fun r3=>.k r3) (.i (op==9) (.bn (zyy s k v) fun r4=>.k (IntKind.i64.wrap (1000 - r4))) (.bn (zvE s k v) fun r5=>.k (IntKind.i64.wrap (1000 - r5)))))))
def zop (s:Stats) (op:Int) (k:Int) (v:Value):Bool×Int:=(zp5 s op k v).fin default
def zV:Value:=⟨0,0,ByteArray.mk #[]⟩
theorem veq (a b:Value):(a.Kind==b.Kind&&(a.Int==b.Int&&(a.Text.toList==b.Text.toList&&true)))=decide (a=b):=by
 obtain ⟨k,n,s⟩:=a; obtain ⟨k',n',s'⟩:=b
 simp only [ztL,beqd,Bool.and_true,Value.mk.injEq]
 by_cases h1:k=k' <;>by_cases h2:n=n' <;>by_cases h3:s=s' <;>simp [h1,h2,h3]
theorem zKE (a:Value):(a.Kind==(0:Int)&&(a.Int==(0:Int)&&(a.Text.toList==(ByteArray.mk #[]).toList&&true)))=decide (a=zV):=veq a zV
theorem vyes (a:Value):(a.Kind==(2:Int)&&(a.Int==(1:Int)&&(a.Text.toList==(ByteArray.mk #[]).toList&&true)))=decide (a=⟨2,1,ByteArray.mk #[]⟩):=veq a ⟨2,1,ByteArray.mk #[]⟩
def zj5 (k:Int) (b:Value):Bool:=valV b&&decide (b.Kind=k)
def srtB (l:List Value) (k:Nat):Bool:=decide (k=0)||decide (cmpV (l.getD (k - 1) default) (l.getD k default)≤0)
def okC (c:ColumnStats) (rows:Int):Bool:=
 if rows=0 then decide (c.Distinct=0)&&(decide (c.Min=zV)&&(decide (c.Max=zV)&&decide (c.Bounds.length=0)))
 else decide (1≤c.Distinct)&&(decide (c.Distinct≤rows)&&(valV c.Min&&(valV c.Max&&(decide (c.Min.Kind=c.Max.Kind)&&(decide (cmpV c.Min c.Max≤0)&&(decide (c.Bounds.length=8)&&(decide (c.Bounds.getD 7 default=c.Max)&&
  (c.Bounds.all (zj5 c.Min.Kind)&&(decide (cmpV c.Min (c.Bounds.getD 0 default)≤0)&&allN (srtB c.Bounds) c.Bounds.length 0)))))))))
def okS (s:Stats):Bool:=decide (0≤s.Rows)&&(decide (s.Rows≤1000000)&&(decide (s.Columns.length≤16)&&s.Columns.all fun c=>okC c s.Rows))
def qP (d:Int):Int:=if Int.tdiv 1000 d>1 then Int.tdiv 1000 d else 1
theorem zFJ {d:Int} (h:1≤d):0≤Int.tdiv 1000 d∧Int.tdiv 1000 d≤1000:=by
 rw [Int.tdiv_eq_ediv_of_nonneg (by omega)]
 exact ⟨Int.ediv_nonneg (by omega) (by omega),Int.ediv_le_self _ (by omega)⟩
theorem zFF {d:Int} (h:1≤d):1≤qP d∧qP d≤1000:=by
 have:=zFJ h
 unfold qP; split <;>omega
theorem zGD {d:Int} (h:1≤d):(if IntKind.i64.wrap (Int.tdiv (1000:Int) d)>(1:Int) then IntKind.i64.wrap (Int.tdiv (1000:Int) d) else (1:Int))=qP d:=by
 have:=zFJ h
 rw [zcq (by omega) (by omega)]; rfl
def eqP (s:Stats) (k:Nat) (v:Value):Int:=
 if s.Rows=0 then 0 else if cmpV v (s.Columns.getD k default).Min<0 then 0 else if cmpV v (s.Columns.getD k default).Max>0 then 0 else qP (s.Columns.getD k default).Distinct
def ltP (s:Stats) (k:Nat) (v:Value):Int:=((125*((s.Columns.getD k default).Bounds.filter fun b=>decide (cmpV b v<0)).length:Nat):Int)
def leP (s:Stats) (k:Nat) (v:Value):Int:=if ltP s k v+eqP s k v<1000 then ltP s k v+eqP s k v else 1000
def znV (s:Stats) (op:Int) (k:Nat) (v:Value):Int:=
 if op=5 then eqP s k v else if op=6 then 1000 - eqP s k v else if op=7 then ltP s k v else if op=8 then leP s k v else if op=9 then 1000 - leP s k v else 1000 - ltP s k v
def maxP (a b:Int):Int:=if b>a then b else a
def zA1 (s:Stats) (op:Int) (a b:Nat):Int:=
 let n:=if s.Rows>0 then qP (maxP (s.Columns.getD a default).Distinct (s.Columns.getD b default).Distinct) else 0
 if op=5 then n else if op=6 then 1000 - n else 333
def mirP (op:Int):Int:=if op=7 then 9 else if op=8 then 10 else if op=9 then 7 else if op=10 then 8 else op
def hasP (s:Stats) (k:Int):Bool:=decide (0≤k)&&decide (k<(s.Columns.length:Int))
def cmpP (s:Stats) (op:Int) (x y:Scalar):Int:=
 if (x.Kind=1∧hasP s x.Column=false)∨(y.Kind=1∧hasP s y.Column=false) then 333
 else if x.Kind=1∧y.Kind=0 then znV s op x.Column.toNat y.Value
 else if x.Kind=0∧y.Kind=1 then znV s (mirP op) y.Column.toNat x.Value
 else if x.Kind=1∧y.Kind=1 then zA1 s op x.Column.toNat y.Column.toNat
 else 333
def yesV:Value:=⟨2,1,ByteArray.mk #[]⟩
def estP (s:Stats):Nat→Scalar→Int
 | 0,_=>0
 | n+1,e=>
  if e.Kind=0 then (if e.Value=yesV then 1000 else 0)
  else if e.Kind=1 then (if hasP s e.Column then eqP s e.Column.toNat yesV else 333)
  else if e.Kind≠2 then 333
  else if e.Op=13∧e.Args.length=1 then 1000 - estP s n (e.Args.getD 0 default)
  else if e.Args.length≠2 then 333
  else if e.Op=11 then Int.tdiv (estP s n (e.Args.getD 0 default)*estP s n (e.Args.getD 1 default)) 1000
  else if e.Op=12 then estP s n (e.Args.getD 0 default)+estP s n (e.Args.getD 1 default) - Int.tdiv (estP s n (e.Args.getD 0 default)*estP s n (e.Args.getD 1 default)) 1000
  else if e.Op<5∨e.Op>10 then 333
  else cmpP s e.Op (e.Args.getD 0 default) (e.Args.getD 1 default)
theorem zxD {s:Stats} (h:okS s=true):0≤s.Rows∧s.Rows≤1000000∧s.Columns.length≤16∧∀ c∈s.Columns,okC c s.Rows=true:=by
 unfold okS at h
 simp only [Bool.and_eq_true,decide_eq_true_eq,List.all_eq_true] at h
 exact ⟨h.1,h.2.1,h.2.2.1,h.2.2.2⟩
theorem zIv {c:ColumnStats} (h:okC c 0=true):c.Distinct=0∧c.Min=zV∧c.Max=zV∧c.Bounds=[]:=by
 unfold okC at h
 rw [if_pos rfl] at h
 simp only [Bool.and_eq_true,decide_eq_true_eq] at h
 exact ⟨h.1,h.2.1,h.2.2.1,List.length_eq_zero_iff.1 h.2.2.2⟩
theorem zxX {c:ColumnStats} {r:Int} (hr:r≠0) (h:okC c r=true):1≤c.Distinct∧c.Distinct≤r∧valV c.Min=true∧valV c.Max=true∧c.Min.Kind=c.Max.Kind∧cmpV c.Min c.Max≤0∧c.Bounds.length=8∧c.Bounds.getD 7 default=c.Max∧(∀ b∈c.Bounds,zj5 c.Min.Kind b=true)∧cmpV c.Min (c.Bounds.getD 0 default)≤0∧allN (srtB c.Bounds) c.Bounds.length 0=true:=by
 unfold okC at h
 rw [if_neg hr] at h
 simp only [Bool.and_eq_true,decide_eq_true_eq,List.all_eq_true] at h
 exact ⟨h.1,h.2.1,h.2.2.1,h.2.2.2.1,h.2.2.2.2.1,h.2.2.2.2.2.1,h.2.2.2.2.2.2.1,h.2.2.2.2.2.2.2.1,h.2.2.2.2.2.2.2.2.1,h.2.2.2.2.2.2.2.2.2.1,h.2.2.2.2.2.2.2.2.2.2⟩
theorem zAI {s:Stats} (h:okS s=true) {k:Nat} (hk:k<s.Columns.length):(s.Columns.getD k default).Bounds.length≤8:=by
 obtain ⟨h1,h2,h3,h4⟩:=zxD h
 have hc:=h4 _ (zc6 hk)
 by_cases h0:s.Rows=0
 ·rw [h0] at hc; rw [(zIv hc).2.2.2]; simp
 ·rw [(zxX h0 hc).2.2.2.2.2.2.1]; exact Nat.le_refl _
theorem zu1 {s:Stats} (h:okS s=true) {k:Nat} (hk:k<s.Columns.length) (v:Value):0≤ltP s k v∧ltP s k v≤1000:=by
 have h1:=zAI h hk
 have h2:=List.length_filter_le (fun b=>decide (cmpV b v<0)) (s.Columns.getD k default).Bounds
 unfold ltP
 omega
theorem zuY {s:Stats} (h:okS s=true) {k:Nat} (hk:k<s.Columns.length) (v:Value):0≤eqP s k v∧eqP s k v≤1000:=by
 obtain ⟨h1,h2,h3,h4⟩:=zxD h
 have hc:=h4 _ (zc6 hk)
 unfold eqP
 by_cases h0:s.Rows=0
 ·rw [if_pos h0]; omega
 ·have:=zFF (zxX h0 hc).1
  rw [if_neg h0]
  split
  ·omega
  ·split <;>omega
theorem zGH {s:Stats} (h:okS s=true) {k:Nat} (hk:k<s.Columns.length) (v:Value):0≤leP s k v∧leP s k v≤1000:=by
 have h1:=zu1 h hk v
 have h2:=zuY h hk v
 unfold leP; split <;>omega
theorem zCS {s:Stats} (h:okS s=true) {k:Nat} (hk:k<s.Columns.length) (op:Int) (v:Value):0≤znV s op k v∧znV s op k v≤1000:=by
 have h1:=zu1 h hk v
 have h2:=zuY h hk v
 have h3:=zGH h hk v
 unfold znV; repeat' split
 all_goals omega
theorem zHz {s:Stats} (h:okS s=true) {a b:Nat} (ha:a<s.Columns.length) (hb:b<s.Columns.length) (op:Int):0≤zA1 s op a b∧zA1 s op a b≤1000:=by
 obtain ⟨h1,h2,h3,h4⟩:=zxD h
 have hc:=h4 _ (zc6 ha)
 unfold zA1
 by_cases h0:s.Rows>0
 ·have hd:=(zxX (by omega) hc).1
  have hq:=zFF (d:=maxP (s.Columns.getD a default).Distinct (s.Columns.getD b default).Distinct) (by unfold maxP; split <;>omega)
  simp only [if_pos h0]
  repeat' split
  all_goals omega
 ·simp only [if_neg h0]
  repeat' split
  all_goals omega
theorem zvL {s:Stats} {k:Int}:hasP s k=true↔0≤k∧k.toNat<s.Columns.length:=by
 unfold hasP; simp only [Bool.and_eq_true,decide_eq_true_eq]; omega
theorem zIQ {s:Stats} (h:okS s=true) (op:Int) (x y:Scalar):0≤cmpP s op x y∧cmpP s op x y≤1000:=by
 unfold cmpP
 split
 ·omega
 ·rename_i hn
  have hx:x.Kind=1→x.Column.toNat<s.Columns.length:=fun e=>by
   refine (zvL.1 ?_).2
   cases hh:hasP s x.Column with
   | true=>rfl
   | false=>exact absurd (.inl ⟨e,hh⟩) hn
  have hy:y.Kind=1→y.Column.toNat<s.Columns.length:=fun e=>by
   refine (zvL.1 ?_).2
   cases hh:hasP s y.Column with
   | true=>rfl
   | false=>exact absurd (.inr ⟨e,hh⟩) hn
  split
  ·rename_i e; exact zCS h (hx e.1) _ _
  ·split
   ·rename_i e; exact zCS h (hy e.2) _ _
   ·split
    ·rename_i e; exact zHz h (hx e.1) (hy e.2) _
    ·omega
theorem zDA {a b:Int} (ha:0≤a∧a≤1000) (hb:0≤b∧b≤1000):0≤a*b∧a*b≤1000000∧0≤Int.tdiv (a*b) 1000∧Int.tdiv (a*b) 1000≤a∧Int.tdiv (a*b) 1000≤b∧a+b - Int.tdiv (a*b) 1000≤1000:=by
 have h0:0≤a*b:=Int.mul_nonneg ha.1 hb.1
 have h1:a*b≤a*1000:=Int.mul_le_mul_of_nonneg_left hb.2 ha.1
 have h2:a*b≤1000*b:=Int.mul_le_mul_of_nonneg_right ha.2 hb.1
 have h3:0≤(1000 - a)*(1000 - b):=Int.mul_nonneg (by omega) (by omega)
 have h4:(1000 - a)*(1000 - b)=1000000 - 1000*a - 1000*b+a*b:=by
  rw [Int.sub_mul,Int.mul_sub,Int.mul_sub]; omega
 rw [Int.tdiv_eq_ediv_of_nonneg h0]
 refine ⟨h0,by omega,Int.ediv_nonneg h0 (by omega),by omega,by omega,by omega⟩
theorem zB6 {s:Stats} (h:okS s=true):∀ (n:Nat) (e:Scalar),0≤estP s n e∧estP s n e≤1000
 | 0,_=>by simp [estP]
 | n+1,e=>by
  have h1:=zB6 h n (e.Args.getD 0 default)
  have h2:=zB6 h n (e.Args.getD 1 default)
  have h3:=zDA h1 h2
  have h4:=zIQ h e.Op (e.Args.getD 0 default) (e.Args.getD 1 default)
  unfold estP
  split
  ·split <;>omega
  ·split
   ·split
    ·rename_i hh; exact zuY h (zvL.1 hh).2 _
    ·omega
   ·repeat' split
    all_goals omega
theorem zD1 (s:Stats):∀ (d n m:Nat) (e:Scalar),zku d e→d≤n→d≤m→estP s n e=estP s m e
 | 0,_,_,_,h,_,_=>h.elim
 | d+1,0,_,_,_,h,_=>by omega
 | d+1,_,0,_,_,_,h=>by omega
 | d+1,n+1,m+1,e,h,hn,hm=>by
  have hx:∀ i,i<e.Args.length→estP s n (e.Args.getD i default)=estP s m (e.Args.getD i default):=fun i hi=>zD1 s d n m _ (h.2 _ (zc6 hi)) (by omega) (by omega)
  unfold estP
  by_cases h1:e.Args.length=1
  ·rw [hx 0 (by omega)]
   simp [h1]
  ·by_cases h2:e.Args.length=2
   ·rw [hx 0 (by omega),hx 1 (by omega)]
   ·simp [h1,h2]
end Go.Proofs.YtddkaehkimnklaaGreatDoor
end
