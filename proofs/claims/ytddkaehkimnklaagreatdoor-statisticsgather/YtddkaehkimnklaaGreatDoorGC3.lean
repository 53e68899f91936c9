/- Texts of this claim, joined (the program, its functions in plain words, and what they compute). -/
import Derived.Test.YtddkaehkimnklaaGreatDoorGC1
import Derived.Test.YtddkaehkimnklaaGreatDoorGA3
import Derived.Test.YtddkaehkimnklaaGreatDoorGC2
set_option autoImplicit false
set_option linter.unusedVariables false
set_option linter.unusedSectionVars false
set_option linter.unusedSimpArgs false
set_option maxRecDepth 1000000
set_option maxHeartbeats 0
noncomputable section
namespace Go.Proofs.YtddkaehkimnklaaGreatDoor
open Go Go.Ab
abbrev ttTannotationValid0:=List Term×Unit×List Term×Int×Int×List Factor×Int×Int×Unit
abbrev ttTannotationValid1:=Bool⊕(List Term×List Term×Int×Int)
abbrev ttTannotationValid2:=List Term×List Term×Int×Int×Unit
def zze (zq:Atom→Bool×Bool) (a:List Term) (t10:List Term) (t11:Int) (t12:Int) (t40:List Factor) (t41:Int) (t42:Int) (t:Term):Wy ttTannotationValid0 (Term×Unit) ttTannotationValid1:=.i (decide (t42<t41)) (.i (decide (0≤t42)&&decide (t42<Int.ofNat t40.length)) (.i (decide ((t40.getD t42.toNat default).Exp<1)) (.k (.inl false)) (.bn (zix (Atom.mk (t40.getD t42.toNat default).Atom.Kind (t40.getD t42.toNat default).Atom.Row (t40.getD t42.toNat default).Atom.Args (t40.getD t42.toNat default).Atom.Func (t40.getD t42.toNat default).Atom.Items (t40.getD t42.toNat default).Atom.Op (t40.getD t42.toNat default).Atom.Bound)) fun r6=>.i (r6) (.i ((t40.getD t42.toNat default).Exp != 1) (.k (.inl false)) (.i (decide (t42>0)) (.i (decide (0≤IntKind.i64.wrap (t42 - 1))&&decide (IntKind.i64.wrap (t42 - 1)<Int.ofNat t.Factors.length)) (.bn (zj2 (Atom.mk (t.Factors.getD (IntKind.i64.wrap (t42 - 1)).toNat default).Atom.Kind (t.Factors.getD (IntKind.i64.wrap (t42 - 1)).toNat default).Atom.Row (t.Factors.getD (IntKind.i64.wrap (t42 - 1)).toNat default).Atom.Args (t.Factors.getD (IntKind.i64.wrap (t42 - 1)).toNat default).Atom.Func (t.Factors.getD (IntKind.i64.wrap (t42 - 1)).toNat default).Atom.Items (t.Factors.getD (IntKind.i64.wrap (t42 - 1)).toNat default).Atom.Op (t.Factors.getD (IntKind.i64.wrap (t42 - 1)).toNat default).Atom.Bound) (Atom.mk (t40.getD t42.toNat default).Atom.Kind (t40.getD t42.toNat default).Atom.Row (t40.getD t42.toNat default).Atom.Args (t40.getD t42.toNat default).Atom.Func (t40.getD t42.toNat default).Atom.Items (t40.getD t42.toNat default).Atom.Op (t40.getD t42.toNat default).Atom.Bound)) fun r1=>.i (decide (r1≥0)) (.k (.inl false)) (.bn (zq (Atom.mk (t40.getD t42.toNat default).Atom.Kind (t40.getD t42.toNat default).Atom.Row (t40.getD t42.toNat default).Atom.Args (t40.getD t42.toNat default).Atom.Func (t40.getD t42.toNat default).Atom.Items (t40.getD t42.toNat default).Atom.Op (t40.getD t42.toNat default).Atom.Bound)) fun r0=>.i (!r0) (.k (.inl false)) (.h (a,(),t10,t11,t12,t40,t41,(IntKind.i64.wrap (t42+1)),()) (t,())))) .d) (.bn (zq (Atom.mk (t40.getD t42.toNat default).Atom.Kind (t40.getD t42.toNat default).Atom.Row (t40.getD t42.toNat default).Atom.Args (t40.getD t42.toNat default).Atom.Func (t40.getD t42.toNat default).Atom.Items (t40.getD t42.toNat default).Atom.Op (t40.getD t42.toNat default).Atom.Bound)) fun r2=>.i (!r2) (.k (.inl false)) (.h (a,(),t10,t11,t12,t40,t41,(IntKind.i64.wrap (t42+1)),()) (t,()))))) (.i (decide (t42>0)) (.i (decide (0≤IntKind.i64.wrap (t42 - 1))&&decide (IntKind.i64.wrap (t42 - 1)<Int.ofNat t.Factors.length)) (.bn (zj2 (Atom.mk (t.Factors.getD (IntKind.i64.wrap (t42 - 1)).toNat default).Atom.Kind (t.Factors.getD (IntKind.i64.wrap (t42 - 1)).toNat default).Atom.Row (t.Factors.getD (IntKind.i64.wrap (t42 - 1)).toNat default).Atom.Args (t.Factors.getD (IntKind.i64.wrap (t42 - 1)).toNat default).Atom.Func (t.Factors.getD (IntKind.i64.wrap (t42 - 1)).toNat default).Atom.Items (t.Factors.getD (IntKind.i64.wrap (t42 - 1)).toNat default).Atom.Op (t.Factors.getD (IntKind.i64.wrap (t42 - 1)).toNat default).Atom.Bound) (Atom.mk (t40.getD t42.toNat default).Atom.Kind (t40.getD t42.toNat default).Atom.Row (t40.getD t42.toNat default).Atom.Args (t40.getD t42.toNat default).Atom.Func (t40.getD t42.toNat default).Atom.Items (t40.getD t42.toNat default).Atom.Op (t40.getD t42.toNat default).Atom.Bound)) fun r4=>.i (decide (r4≥0)) (.k (.inl false)) (.bn (zq (Atom.mk (t40.getD t42.toNat default).Atom.Kind (t40.getD t42.toNat default).Atom.Row (t40.getD t42.toNat default).Atom.Args (t40.getD t42.toNat default).Atom.Func (t40.getD t42.toNat default).Atom.Items (t40.getD t42.toNat default).Atom.Op (t40.getD t42.toNat default).Atom.Bound)) fun r3=>.i (!r3) (.k (.inl false)) (.h (a,(),t10,t11,t12,t40,t41,(IntKind.i64.wrap (t42+1)),()) (t,())))) .d) (.bn (zq (Atom.mk (t40.getD t42.toNat default).Atom.Kind (t40.getD t42.toNat default).Atom.Row (t40.getD t42.toNat default).Atom.Args (t40.getD t42.toNat default).Atom.Func (t40.getD t42.toNat default).Atom.Items (t40.getD t42.toNat default).Atom.Op (t40.getD t42.toNat default).Atom.Bound)) fun r5=>.i (!r5) (.k (.inl false)) (.h (a,(),t10,t11,t12,t40,t41,(IntKind.i64.wrap (t42+1)),()) (t,())))))) .d) (.k (.inr (a,t10,t11,t12)))
def zlk (zq:Atom→Bool×Bool) (x:ttTannotationValid0) (y:Term×Unit):Wy ttTannotationValid0 (Term×Unit) ttTannotationValid1:=zze zq x.1 x.2.2.1 x.2.2.2.1 x.2.2.2.2.1 x.2.2.2.2.2.1 x.2.2.2.2.2.2.1 x.2.2.2.2.2.2.2.1 y.1
def zqq (zq:Atom→Bool×Bool) (n:Nat) (a:List Term) (t10:List Term) (t11:Int) (t12:Int) (t40:List Factor) (t41:Int) (t42:Int) (t:Term):Bool×ttTannotationValid1:=zN (zlk zq) (.inl default) n (a,(),t10,t11,t12,t40,t41,t42,()) (t,())
def zpt (r:ttTannotationValid1):LTree ty:=.ite (isL r) (.done .ret [.lit (.bool (getL r))] []) (.done (.exit 2) [.sl 152 (getR r).1,.sl 152 (getR r).2.1,.lit (.int .i64 (getR r).2.2.1),.lit (.int .i64 (getR r).2.2.2)] [])
def zqX:LL ty ttTannotationValid0:=za (lSl 152) (za (zct 340 0) (za (lSl 152) (za (lInt .i64) (za (lInt .i64) (za (lSl 160) (za (lInt .i64) (za (lInt .i64) zG)))))))
def zq5:BL ty (Term×Unit):=bBox (zhc (fun x=>(⟨x.1,x.2.1⟩:Term)) (fun x=>(x.Coeff,x.Factors,())) (fun _=>rfl) (za (lInt .i64) (za (lSl 160) zG))) false (bNil)
def zyA (zq:Atom→Bool×Bool) (a:List Term) (t10:List Term) (t11:Int) (t12:Int):Wy ttTannotationValid2 (Unit) (Bool⊕Unit):=.i (decide (t12<t11)) (.i (decide (0≤t12)&&decide (t12<Int.ofNat t10.length)) (.i (decide ((t10.getD t12.toNat default).Coeff<1)) (.k (.inl false)) (.i (decide ((t10.getD t12.toNat default).Coeff>1152921504606846976)) (.k (.inl false)) (.i (decide (t12>0)) (.i (decide (0≤IntKind.i64.wrap (t12 - 1))&&decide (IntKind.i64.wrap (t12 - 1)<Int.ofNat a.length)) (.bn (zoR (a.getD (IntKind.i64.wrap (t12 - 1)).toNat default) (t10.getD t12.toNat default)) fun r15=>.i (decide (r15≥0)) (.k (.inl false)) (.bn (zqq zq (a.length+t10.length+t11.toNat +t12.toNat +(t10.getD t12.toNat default).Factors.length+(Int.ofNat (t10.getD t12.toNat default).Factors.length).toNat +Int.toNat 0+(t10.getD t12.toNat default).Factors.length+1000) a t10 t11 t12 (t10.getD t12.toNat default).Factors (Int.ofNat (t10.getD t12.toNat default).Factors.length) 0 (t10.getD t12.toNat default)) fun r14=>.i (isL r14) (.k (.inl (getL r14))) (.h ((getR r14).1,(getR r14).2.1,(getR r14).2.2.1,(IntKind.i64.wrap ((getR r14).2.2.2+1)),()) ()))) .d) (.bn (zqq zq (a.length+t10.length+t11.toNat +t12.toNat +(t10.getD t12.toNat default).Factors.length+(Int.ofNat (t10.getD t12.toNat default).Factors.length).toNat +Int.toNat 0+(t10.getD t12.toNat default).Factors.length+1000) a t10 t11 t12 (t10.getD t12.toNat default).Factors (Int.ofNat (t10.getD t12.toNat default).Factors.length) 0 (t10.getD t12.toNat default)) fun r16=>.i (isL r16) (.k (.inl (getL r16))) (.h ((getR r16).1,(getR r16).2.1,(getR r16).2.2.1,(IntKind.i64.wrap ((getR r16).2.2.2+1)),()) ()))))) .d) (.k (.inr ()))
def zlm (zq:Atom→Bool×Bool) (x:ttTannotationValid2) (y:Unit):Wy ttTannotationValid2 (Unit) (Bool⊕Unit):=zyA zq x.1 x.2.1 x.2.2.1 x.2.2.2.1
def zzi (zq:Atom→Bool×Bool) (n:Nat) (a:List Term) (t10:List Term) (t11:Int) (t12:Int):Bool×(Bool⊕Unit):=zN (zlm zq) (.inl default) n (a,t10,t11,t12,()) ()
def zpW (r:Bool⊕Unit):LTree ty:=.ite (isL r) (.done .ret [.lit (.bool (getL r))] []) (.done (.exit 0) [] [])
def zqC:LL ty ttTannotationValid2:=za (lSl 152) (za (lSl 152) (za (lInt .i64) (za (lInt .i64) zG)))
def zqv:BL ty (Unit):=bNil
def zpv (x:ttTannotationValid0) (y:Term×Unit):Nat:=(x.1.length+x.2.2.1.length+Int.toNat x.2.2.2.1+Int.toNat x.2.2.2.2.1+x.2.2.2.2.2.1.length+Int.toNat x.2.2.2.2.2.2.1+Int.toNat x.2.2.2.2.2.2.2.1+y.1.Factors.length+1000)
def zpF (x:ttTannotationValid2) (y:Unit):Nat:=(x.1.length+x.2.1.length+Int.toNat x.2.2.1+Int.toNat x.2.2.2.1+1000)
def zla (zq:Atom→Bool×Bool):Cx ty:=mkCx base 85 [(107,zpG),(108,annotation_compareLists_spec),(109,ziP),(110,annotation_compareAtoms_spec),(111,(zh4 zq))] [] [(4,[(0,.keep),(10,.keep),(11,.keep),(12,.keep)]),(9,[(0,.keep),(4,.keep),(10,.keep),(11,.keep),(12,.keep),(40,.keep),(41,.keep),(42,.keep)])] [(4,1,[]),(4,0,[(2,.keep)]),(9,3,[(0,.keep),(10,.keep),(11,.keep),(12,.keep)]),(9,0,[(2,.keep)])] [(9,spW zqX zq5 (zlk zq) (.inl default) zpt zpv),(4,spW zqC zqv (zlm zq) (.inl default) zpW zpF)] []
theorem zyc (zq:Atom→Bool×Bool):zS (zla zq) (lp (body Tryz.f69) 1):=zL (id:=9) (V:=zqX) (B:=zq5) (W:=zlk zq) (z:=.inl default) (tr:=zpt) (m:=zpv)
theorem zyt (zq:Atom→Bool×Bool):zS (zla zq) (lp (body Tryz.f69) 0):=zL (id:=4) (V:=zqC) (B:=zqv) (W:=zlm zq) (z:=.inl default) (tr:=zpW) (m:=zpF)
def zrH (zq:Atom→Bool×Bool) (a:List Term):Wy0 (Bool):=.bn (zo1 a) fun r21=>.i (!r21) (.k false) (.bn (zzi zq (a.length+a.length+(Int.ofNat a.length).toNat +Int.toNat 0+1000) a a (Int.ofNat a.length) 0) fun r20=>.i (isL r20) (.k (getL r20)) (.k true))
def ztO (zq:Atom→Bool×Bool) (a:List Term):Bool×Bool:=(zrH zq a).fin default
theorem zwD (zq:Atom→Bool×Bool) (zwi:Sound Tryz.prog base 111 (zh4 zq)):Sound Tryz.prog base 69 (zfm (ztO zq)):=
 zu (cx':=(zla zq)) zH zn zD (zx ⟨zwW,zsp,zlJ,zsn,zwi,trivial⟩) Tryz.call69 Tryz.func69 (c:=body Tryz.f69) (by kernel_rfl) (zh (l:=[lp (body Tryz.f69) 0,lp (body Tryz.f69) 1]) (by kernel_rfl) ⟨zyt zq,zyc zq,trivial⟩) (sg:=⟨[.pure],[]⟩) (A:=zt0) (res:=zr5) (W:=fun x=>zrH zq x.1) (z:=default)
def zAU:Cx ty:=mkCx base 9 [(145,annotation_Compare_spec)] [] [] [] [] []
def ztH (a:List Term) (b:List Term):Wy0 (Bool):=.bn (zt8 a b) fun r0=>.k (r0==0)
def zqe (a:List Term) (b:List Term):Bool×Bool:=(ztH a b).fin default
def zrq (r:Bool):ARes ty:=⟨[.pure (.lit (.bool r))],[]⟩
def ztJ:AL base (List Term×List Term×Unit):=zf (zg (vSl 152)) (zf (zg (vSl 152)) aNil)
def zqi:Ab.Spec ty:=zm ztJ fun x=>((zqe x.1 x.2.1).1,zrq (zqe x.1 x.2.1).2)
theorem zyf:Sound Tryz.prog base 151 zqi:=
 zu (cx':=zAU) zH zn zD (zx ⟨zvT,trivial⟩) Tryz.call151 Tryz.func151 (c:=body Tryz.f151) (by kernel_rfl) (zh (l:=[]) (by kernel_rfl) trivial) (sg:=⟨[.pure],[]⟩) (A:=ztJ) (res:=zrq) (W:=fun x=>ztH x.1 x.2.1) (z:=default)
def zwr:Cx ty:=mkCx base 27 [(83,zgO)] [] [] [] [] []
def zoF (w:Weighted) (p1:Value) (p2:Int):Wy0 (Bool):=.bn (zgq w.Value) fun r0=>.i (!r0) (.k true) (.i (w.Value.Kind != p1.Kind) (.k true) (.i (p2==0) (.k (w.Value.Int != 1)) (.k false)))
def zk1 (w:Weighted) (p1:Value) (p2:Int):Bool×Bool:=(zoF w p1 p2).fin default
def zm7 (r:Bool):ARes ty:=⟨[.pure (.lit (.bool r))],[]⟩
def zoS:AL base (Weighted×Value×(Int×Unit)×Unit):=zf (zg (vAgg 182)) (zf (zg (zvw 40)) (zf (zg (vBox (zrE (vInt .i64) vNil))) aNil))
def zgF:Ab.Spec ty:=zm zoS fun x=>((zk1 x.1 x.2.1 x.2.2.1.1).1,zm7 (zk1 x.1 x.2.1 x.2.2.1.1).2)
theorem zia:Sound Tryz.prog base 202 zgF:=
 zu (cx':=zwr) zH zn zD (zx ⟨zho,trivial⟩) Tryz.call202 Tryz.func202 (c:=body Tryz.f202) (by kernel_rfl) (zh (l:=[]) (by kernel_rfl) trivial) (sg:=⟨[.pure],[]⟩) (A:=zoS) (res:=zm7) (W:=fun x=>zoF x.1 x.2.1 x.2.2.1.1) (z:=default)
abbrev ttTslicesIndexFuncLapiWeightedapiWeightedfi0:=List Weighted×(Value×(Int×Unit)×Unit)×Int×Int×Unit
def zjv (s:List Weighted) (f_0:Value) (f_1:Int) (t7:Int) (t8:Int):Wy ttTslicesIndexFuncLapiWeightedapiWeightedfi0 (Unit) (Int⊕Unit):=.i (decide (t8<t7)) (.i (decide (0≤t8)&&decide (t8<Int.ofNat s.length)) (.bn (zk1 (s.getD t8.toNat default) f_0 f_1) fun r0=>.i (r0) (.k (.inl t8)) (.h (s,(f_0,(f_1,()),()),t7,(IntKind.i64.wrap (t8+1)),()) ())) .d) (.k (.inr ()))
def zcI (x:ttTslicesIndexFuncLapiWeightedapiWeightedfi0) (y:Unit):Wy ttTslicesIndexFuncLapiWeightedapiWeightedfi0 (Unit) (Int⊕Unit):=zjv x.1 x.2.1.1 x.2.1.2.1.1 x.2.2.1 x.2.2.2.1
def zjz (n:Nat) (s:List Weighted) (f_0:Value) (f_1:Int) (t7:Int) (t8:Int):Bool×(Int⊕Unit):=zN (zcI) (.inl default) n (s,(f_0,(f_1,()),()),t7,t8,()) ()
def zeG (r:Int⊕Unit):LTree ty:=.ite (isL r) (.done .ret [.lit (.int .i64 (getL r))] []) (.done (.exit 0) [] [])
def ze7:LL ty ttTslicesIndexFuncLapiWeightedapiWeightedfi0:=za (lSl 182) (za (lFn 202 (za (zD0 (zhc (fun x=>(⟨x.1,x.2.1,x.2.2.1⟩:Value)) (fun x=>(x.Kind,x.Int,x.Text,())) (fun _=>rfl) (za (lInt .i64) (za (lInt .i64) (za lStr zG)))) 0) (za (zD0 (za (lInt .i64) zG) 0) zG))) (za (lInt .i64) (za (lInt .i64) zG)))
def ze9:BL ty (Unit):=bNil
def zeT (x:ttTslicesIndexFuncLapiWeightedapiWeightedfi0) (y:Unit):Nat:=(x.1.length+Int.toNat x.2.1.2.1.1+Int.toNat x.2.2.1+Int.toNat x.2.2.2.1+1000)
def ze8:Cx ty:=mkCx base 19 [(202,zgF)] [] [(2,[(0,.keep),(1,.keep),(7,.keep),(8,.keep)])] [(2,1,[]),(2,0,[(4,.keep)])] [(2,spW ze7 ze9 (zcI) (.inl default) zeG zeT)] []
theorem zjd:zS ze8 (lp (body Tryz.f201) 0):=zL (id:=2) (V:=ze7) (B:=ze9) (W:=zcI) (z:=.inl default) (tr:=zeG) (m:=zeT)
def zfb (s:List Weighted) (f_0:Value) (f_1:Int):Wy0 (Int):=.bn (zjz (s.length+f_1.toNat +(Int.ofNat s.length).toNat +Int.toNat 0+1000) s f_0 f_1 (Int.ofNat s.length) 0) fun r2=>.i (isL r2) (.k (getL r2)) (.k (-1:Int))
def zcY (s:List Weighted) (f_0:Value) (f_1:Int):Bool×Int:=(zfb s f_0 f_1).fin default
def zeO (r:Int):ARes ty:=⟨[.pure (.lit (.int .i64 r))],[]⟩
def zfs:AL base (List Weighted×(Value×(Int×Unit)×Unit)×Unit):=zf (zg (vSl 182)) (zf (zg (vFn 202 (zrE (zvw 40) (zrE (vBox (zrE (vInt .i64) vNil)) vNil)))) aNil)
def zeE:Ab.Spec ty:=zm zfs fun x=>((zcY x.1 x.2.1.1 x.2.1.2.1.1).1,zeO (zcY x.1 x.2.1.1 x.2.1.2.1.1).2)
theorem ziJ:Sound Tryz.prog base 201 zeE:=
 zu (cx':=ze8) zH zn zD (zx ⟨zia,trivial⟩) Tryz.call201 Tryz.func201 (c:=body Tryz.f201) (by kernel_rfl) (zh (l:=[lp (body Tryz.f201) 0]) (by kernel_rfl) ⟨zjd,trivial⟩) (sg:=⟨[.pure],[]⟩) (A:=zfs) (res:=zeO) (W:=fun x=>zfb x.1 x.2.1.1 x.2.1.2.1.1) (z:=default)
def ziF:Cx ty:=mkCx base 9 [(201,zeE),(202,zgF)] [] [] [] [] []
def zev (s:List Weighted) (f_0:Value) (f_1:Int):Wy0 (Bool):=.bn (zcY s f_0 f_1) fun r0=>.k (decide (r0≥0))
def zbi (s:List Weighted) (f_0:Value) (f_1:Int):Bool×Bool:=(zev s f_0 f_1).fin default
def zec (r:Bool):ARes ty:=⟨[.pure (.lit (.bool r))],[]⟩
def zew:AL base (List Weighted×(Value×(Int×Unit)×Unit)×Unit):=zf (zg (vSl 182)) (zf (zg (vFn 202 (zrE (zvw 40) (zrE (vBox (zrE (vInt .i64) vNil)) vNil)))) aNil)
def zd2:Ab.Spec ty:=zm zew fun x=>((zbi x.1 x.2.1.1 x.2.1.2.1.1).1,zec (zbi x.1 x.2.1.1 x.2.1.2.1.1).2)
theorem zh0:Sound Tryz.prog base 155 zd2:=
 zu (cx':=ziF) zH zn zD (zx ⟨ziJ,zia,trivial⟩) Tryz.call155 Tryz.func155 (c:=body Tryz.f155) (by kernel_rfl) (zh (l:=[]) (by kernel_rfl) trivial) (sg:=⟨[.pure],[]⟩) (A:=zew) (res:=zec) (W:=fun x=>zev x.1 x.2.1.1 x.2.1.2.1.1) (z:=default)
def zyK:Cx ty:=mkCx base 43 [(83,zgO),(155,zd2),(202,zgF)] [] [] [] [] []
def zrt (fn:Int) (items:List Weighted) (op:Int) (bound:Value):Wy0 (Bool):=.i (decide (fn<0)) (.k false) (.i (decide (fn>3)) (.k false) (.i (decide (op<5)) (.k false) (.i (decide (op>10)) (.k false) (.bn (zgq bound) fun r3=>.i (!r3) (.k false) (.i (fn==0) (.i (bound.Kind != 0) (.k false) (.bn (zbi items bound fn) fun r0=>.k (!r0))) (.i (fn==1) (.i (bound.Kind != 0) (.k false) (.bn (zbi items bound fn) fun r1=>.k (!r1))) (.bn (zbi items bound fn) fun r2=>.k (!r2))))))))
def zoc (fn:Int) (items:List Weighted) (op:Int) (bound:Value):Bool×Bool:=(zrt fn items op bound).fin default
def zpA (r:Bool):ARes ty:=⟨[.pure (.lit (.bool r))],[]⟩
def zsd:AL base (Int×List Weighted×Int×Value×Unit):=zf (zg (vInt .i64)) (zf (zg (vSl 182)) (zf (zg (vInt .i64)) (zf (zg (vAgg 40)) aNil)))
def zo0:Ab.Spec ty:=zm zsd fun x=>((zoc x.1 x.2.1 x.2.2.1 x.2.2.2.1).1,zpA (zoc x.1 x.2.1 x.2.2.1 x.2.2.2.1).2)
theorem zwo:Sound Tryz.prog base 158 zo0:=
 zu (cx':=zyK) zH zn zD (zx ⟨zho,zh0,zia,trivial⟩) Tryz.call158 Tryz.func158 (c:=body Tryz.f158) (by kernel_rfl) (zh (l:=[]) (by kernel_rfl) trivial) (sg:=⟨[.pure],[]⟩) (A:=zsd) (res:=zpA) (W:=fun x=>zrt x.1 x.2.1 x.2.2.1 x.2.2.2.1) (z:=default)
def ztd:Cx ty:=mkCx base 7 [] [] [] [] [] []
def zls (t:Term):Wy0 (Bool):=.k (Int.ofNat t.Factors.length==0)
def zi7 (t:Term):Bool×Bool:=(zls t).fin default
def zkB (r:Bool):ARes ty:=⟨[.pure (.lit (.bool r))],[]⟩
def zlt:AL base (Term×Unit):=zf (zg (vAgg 152)) aNil
def zeY:Ab.Spec ty:=zm zlt fun x=>((zi7 x.1).1,zkB (zi7 x.1).2)
theorem zg5:Sound Tryz.prog base 200 zeY:=
 zu (cx':=ztd) zH zn zD (zx trivial) Tryz.call200 Tryz.func200 (c:=body Tryz.f200) (by kernel_rfl) (zh (l:=[]) (by kernel_rfl) trivial) (sg:=⟨[.pure],[]⟩) (A:=zlt) (res:=zkB) (W:=fun x=>zls x.1) (z:=default)
abbrev ttTslicesIndexFuncapiAnnotationapiTermhc0:=List Term×Unit×Int×Int×Unit
def zj1 (s:List Term) (t7:Int) (t8:Int):Wy ttTslicesIndexFuncapiAnnotationapiTermhc0 (Unit) (Int⊕Unit):=.i (decide (t8<t7)) (.i (decide (0≤t8)&&decide (t8<Int.ofNat s.length)) (.i ((zi7 (s.getD t8.toNat default)).2) (.k (.inl t8)) (.h (s,(),t7,(IntKind.i64.wrap (t8+1)),()) ())) .d) (.k (.inr ()))
def zc2 (x:ttTslicesIndexFuncapiAnnotationapiTermhc0) (y:Unit):Wy ttTslicesIndexFuncapiAnnotationapiTermhc0 (Unit) (Int⊕Unit):=zj1 x.1 x.2.2.1 x.2.2.2.1
def zjX (n:Nat) (s:List Term) (t7:Int) (t8:Int):Bool×(Int⊕Unit):=zN (zc2) (.inl default) n (s,(),t7,t8,()) ()
def zfx (r:Int⊕Unit):LTree ty:=.ite (isL r) (.done .ret [.lit (.int .i64 (getL r))] []) (.done (.exit 0) [] [])
def zfU:LL ty ttTslicesIndexFuncapiAnnotationapiTermhc0:=za (lSl 152) (za (lFn 200 (zG)) (za (lInt .i64) (za (lInt .i64) zG)))
def zfY:BL ty (Unit):=bNil
def zfG (x:ttTslicesIndexFuncapiAnnotationapiTermhc0) (y:Unit):Nat:=(x.1.length+Int.toNat x.2.2.1+Int.toNat x.2.2.2.1+1000)
def zfZ:Cx ty:=mkCx base 19 [(200,zeY)] [] [(2,[(0,.keep),(1,.keep),(7,.keep),(8,.keep)])] [(2,1,[]),(2,0,[(4,.keep)])] [(2,spW zfU zfY (zc2) (.inl default) zfx zfG)] []
theorem zjP:zS zfZ (lp (body Tryz.f195) 0):=zL (id:=2) (V:=zfU) (B:=zfY) (W:=zc2) (z:=.inl default) (tr:=zfx) (m:=zfG)
def zgj (s:List Term):Wy0 (Int):=.bn (zjX (s.length+(Int.ofNat s.length).toNat +Int.toNat 0+1000) s (Int.ofNat s.length) 0) fun r0=>.i (isL r0) (.k (getL r0)) (.k (-1:Int))
def zdn (s:List Term):Bool×Int:=(zgj s).fin default
def zfv (r:Int):ARes ty:=⟨[.pure (.lit (.int .i64 r))],[]⟩
def zgf:AL base (List Term×Unit×Unit):=zf (zg (vSl 152)) (zf (zg (vFn 200 vNil)) aNil)
def zfh:Ab.Spec ty:=zm zgf fun x=>((zdn x.1).1,zfv (zdn x.1).2)
theorem zjs:Sound Tryz.prog base 195 zfh:=
 zu (cx':=zfZ) zH zn zD (zx ⟨zg5,trivial⟩) Tryz.call195 Tryz.func195 (c:=body Tryz.f195) (by kernel_rfl) (zh (l:=[lp (body Tryz.f195) 0]) (by kernel_rfl) ⟨zjP,trivial⟩) (sg:=⟨[.pure],[]⟩) (A:=zgf) (res:=zfv) (W:=fun x=>zgj x.1) (z:=default)
def zjt:Cx ty:=mkCx base 9 [(195,zfh),(200,zeY)] [] [] [] [] []
def zfo (s:List Term):Wy0 (Bool):=.bn (zdn s) fun r0=>.k (decide (r0≥0))
def zc0 (s:List Term):Bool×Bool:=(zfo s).fin default
def zeK (r:Bool):ARes ty:=⟨[.pure (.lit (.bool r))],[]⟩
def zfk:AL base (List Term×Unit×Unit):=zf (zg (vSl 152)) (zf (zg (vFn 200 vNil)) aNil)
def zez:Ab.Spec ty:=zm zfk fun x=>((zc0 x.1).1,zeK (zc0 x.1).2)
theorem ziM:Sound Tryz.prog base 138 zez:=
 zu (cx':=zjt) zH zn zD (zx ⟨zjs,zg5,trivial⟩) Tryz.call138 Tryz.func138 (c:=body Tryz.f138) (by kernel_rfl) (zh (l:=[]) (by kernel_rfl) trivial) (sg:=⟨[.pure],[]⟩) (A:=zfk) (res:=zeK) (W:=fun x=>zfo x.1) (z:=default)
def zve:Cx ty:=mkCx base 5 [(138,zez),(200,zeY)] [] [] [] [] []
def zoo (a:List Term):Wy0 (Bool):=.bn (zc0 a) fun r0=>.k r0
def zkq (a:List Term):Bool×Bool:=(zoo a).fin default
def zmG (r:Bool):ARes ty:=⟨[.pure (.lit (.bool r))],[]⟩
def znT:AL base (List Term×Unit):=zf (zg (vSl 152)) aNil
def zlP:Ab.Spec ty:=zm znT fun x=>((zkq x.1).1,zmG (zkq x.1).2)
theorem zsN:Sound Tryz.prog base 154 zlP:=
 zu (cx':=zve) zH zn zD (zx ⟨ziM,zg5,trivial⟩) Tryz.call154 Tryz.func154 (c:=body Tryz.f154) (by kernel_rfl) (zh (l:=[]) (by kernel_rfl) trivial) (sg:=⟨[.pure],[]⟩) (A:=znT) (res:=zmG) (W:=fun x=>zoo x.1) (z:=default)
def zvY:Cx ty:=mkCx base 14 [] [] [] [] [] []
def zoU (a:List Term):Wy0 (Bool):=.i (Int.ofNat a.length==1) (.i (decide ((0:Int)≤(0:Int))&&decide (0<Int.ofNat a.length)) (.k (Int.ofNat (a.getD (Int.toNat 0) default).Factors.length==0)) .d) (.k false)
def zln (a:List Term):Bool×Bool:=(zoU a).fin default
def zns (r:Bool):ARes ty:=⟨[.pure (.lit (.bool r))],[]⟩
def zoY:AL base (List Term×Unit):=zf (zg (vSl 152)) aNil
def zmH:Ab.Spec ty:=zm zoY fun x=>((zln x.1).1,zns (zln x.1).2)
theorem ztr:Sound Tryz.prog base 152 zmH:=
 zu (cx':=zvY) zH zn zD (zx trivial) Tryz.call152 Tryz.func152 (c:=body Tryz.f152) (by kernel_rfl) (zh (l:=[]) (by kernel_rfl) trivial) (sg:=⟨[.pure],[]⟩) (A:=zoY) (res:=zns) (W:=fun x=>zoU x.1) (z:=default)
def zz5:Cx ty:=mkCx base 42 [(109,ziP)] [] [] [] [] []
def zsB (a:List Term):Wy0 (Bool):=.i (Int.ofNat a.length != 1) (.k false) (.i (decide ((0:Int)≤(0:Int))&&decide (0<Int.ofNat a.length)) (.i ((a.getD (Int.toNat 0) default).Coeff != 1) (.k false) (.i (decide ((0:Int)≤(0:Int))&&decide (0<Int.ofNat a.length)) (.i (Int.ofNat (a.getD (Int.toNat 0) default).Factors.length != 1) (.k false) (.i (decide ((0:Int)≤(0:Int))&&decide (0<Int.ofNat a.length)) (.i (decide ((0:Int)≤(0:Int))&&decide (0<Int.ofNat (a.getD (Int.toNat 0) default).Factors.length)) (.i (((a.getD (Int.toNat 0) default).Factors.getD (Int.toNat 0) default).Exp==1) (.i (((a.getD (Int.toNat 0) default).Factors.getD (Int.toNat 0) default).Atom.Kind==2) (.k true) (.bn (zix (Atom.mk ((a.getD (Int.toNat 0) default).Factors.getD (Int.toNat 0) default).Atom.Kind ((a.getD (Int.toNat 0) default).Factors.getD (Int.toNat 0) default).Atom.Row ((a.getD (Int.toNat 0) default).Factors.getD (Int.toNat 0) default).Atom.Args ((a.getD (Int.toNat 0) default).Factors.getD (Int.toNat 0) default).Atom.Func ((a.getD (Int.toNat 0) default).Factors.getD (Int.toNat 0) default).Atom.Items ((a.getD (Int.toNat 0) default).Factors.getD (Int.toNat 0) default).Atom.Op ((a.getD (Int.toNat 0) default).Factors.getD (Int.toNat 0) default).Atom.Bound)) fun r0=>.k r0)) (.k false)) .d) .d)) .d)) .d)
def zpf (a:List Term):Bool×Bool:=(zsB a).fin default
def zqI (r:Bool):ARes ty:=⟨[.pure (.lit (.bool r))],[]⟩
def zsy:AL base (List Term×Unit):=zf (zg (vSl 152)) aNil
def zpE:Ab.Spec ty:=zm zsy fun x=>((zpf x.1).1,zqI (zpf x.1).2)
theorem zw9:Sound Tryz.prog base 153 zpE:=
 zu (cx':=zz5) zH zn zD (zx ⟨zlJ,trivial⟩) Tryz.call153 Tryz.func153 (c:=body Tryz.f153) (by kernel_rfl) (zh (l:=[]) (by kernel_rfl) trivial) (sg:=⟨[.pure],[]⟩) (A:=zsy) (res:=zqI) (W:=fun x=>zsB x.1) (z:=default)
def zEs:Cx ty:=mkCx base 11 [] [] [] [] [] []
def zyC (id:RowID):Wy0 (Bool):=.i (decide (id.Table≥1)) (.k (decide (id.Seq≥1))) (.k false)
def zvQ (id:RowID):Bool×Bool:=(zyC id).fin default
def zvU (r:Bool):ARes ty:=⟨[.pure (.lit (.bool r))],[]⟩
def zyO:AL base (RowID×Unit):=zf (zg (vAgg 155)) aNil
def zvc:Ab.Spec ty:=zm zyO fun x=>((zvQ x.1).1,zvU (zvQ x.1).2)
theorem zBv:Sound Tryz.prog base 150 zvc:=
 zu (cx':=zEs) zH zn zD (zx trivial) Tryz.call150 Tryz.func150 (c:=body Tryz.f150) (by kernel_rfl) (zh (l:=[]) (by kernel_rfl) trivial) (sg:=⟨[.pure],[]⟩) (A:=zyO) (res:=zvU) (W:=fun x=>zyC x.1) (z:=default)
abbrev ttTslicesIsSortedFuncLapiWeightedapiWeighted0:=List Weighted×Unit×Int×Unit
def zjq (x_:List Weighted) (i:Int):Wy ttTslicesIsSortedFuncLapiWeightedapiWeighted0 (Unit) (Bool⊕Unit):=.i (decide (i>0)) (.i (decide (0≤i)&&decide (i<Int.ofNat x_.length)) (.i (decide (0≤IntKind.i64.wrap (i - 1))&&decide (IntKind.i64.wrap (i - 1)<Int.ofNat x_.length)) (.bn (zoK (x_.getD i.toNat default) (x_.getD (IntKind.i64.wrap (i - 1)).toNat default)) fun r0=>.i (decide (r0<0)) (.k (.inl false)) (.h (x_,(),(IntKind.i64.wrap (i - 1)),()) ())) .d) .d) (.k (.inr ()))
def zcH (x:ttTslicesIsSortedFuncLapiWeightedapiWeighted0) (y:Unit):Wy ttTslicesIsSortedFuncLapiWeightedapiWeighted0 (Unit) (Bool⊕Unit):=zjq x.1 x.2.2.1
def zjr (n:Nat) (x_:List Weighted) (i:Int):Bool×(Bool⊕Unit):=zN (zcH) (.inl default) n (x_,(),i,()) ()
def zeL (r:Bool⊕Unit):LTree ty:=.ite (isL r) (.done .ret [.lit (.bool (getL r))] []) (.done (.exit 0) [] [])
def ze5:LL ty ttTslicesIsSortedFuncLapiWeightedapiWeighted0:=za (lSl 182) (za (lFn 147 (zG)) (za (lInt .i64) zG))
def ze4:BL ty (Unit):=bNil
def ze3:Cx ty:=mkCx base 25 [(147,annotation_compareItems_spec)] [] [(2,[(0,.keep),(1,.keep),(5,.keep)])] [(2,1,[]),(2,0,[(4,.keep)])] [(2,spW ze5 ze4 (zcH) (.inl default) zeL fun x y=>(x.1.length+Int.toNat x.2.2.1+1000))] []
theorem zi3:zS ze3 (lp (body Tryz.f157) 0):=zL (id:=2) (V:=ze5) (B:=ze4) (W:=zcH) (z:=.inl default) (tr:=zeL) (m:=fun x y=>(x.1.length+Int.toNat x.2.2.1+1000))
def zff (x_:List Weighted):Wy0 (Bool):=.bn (zjr (x_.length+(IntKind.i64.wrap (Int.ofNat x_.length - 1)).toNat +1000) x_ (IntKind.i64.wrap (Int.ofNat x_.length - 1))) fun r2=>.i (isL r2) (.k (getL r2)) (.k true)
def zcZ (x_:List Weighted):Bool×Bool:=(zff x_).fin default
def zeS (r:Bool):ARes ty:=⟨[.pure (.lit (.bool r))],[]⟩
def zfg:AL base (List Weighted×Unit×Unit):=zf (zg (vSl 182)) (zf (zg (vFn 147 vNil)) aNil)
def zer:Ab.Spec ty:=zm zfg fun x=>((zcZ x.1).1,zeS (zcZ x.1).2)
theorem ziE:Sound Tryz.prog base 157 zer:=
 zu (cx':=ze3) zH zn zD (zx ⟨zkC,trivial⟩) Tryz.call157 Tryz.func157 (c:=body Tryz.f157) (by kernel_rfl) (zh (l:=[lp (body Tryz.f157) 0]) (by kernel_rfl) ⟨zi3,trivial⟩) (sg:=⟨[.pure],[]⟩) (A:=zfg) (res:=zeS) (W:=fun x=>zff x.1) (z:=default)
def zbK (zb:List (List Term)→Bool×Bool) (ze:List Term→Bool×Bool) (zc:List Weighted→Bool×Bool) (zd:Weighted→Bool×Bool):Cx ty:=mkCx base 149 [(147,annotation_compareItems_spec),(148,(zbr zb)),(149,(zb1 ze)),(150,zvc),(151,zqi),(152,zmH),(153,zpE),(154,zlP),(155,(zbF zc)),(156,(zb0 zd)),(157,zer),(158,zo0)] [] [] [] [] []
def zbv (zb:List (List Term)→Bool×Bool) (ze:List Term→Bool×Bool) (zc:List Weighted→Bool×Bool) (zd:Weighted→Bool×Bool) (x_:Atom):Wy0 (Bool):=.i (x_.Kind==0) (.i (x_.Func != 0) (.k false) (.i (Int.ofNat x_.Items.length != 0) (.k false) (.i (x_.Op != 0) (.k false) (.i (!(x_.Bound.Kind==0&&(x_.Bound.Int==0&&(x_.Bound.Text.toList==(ByteArray.mk #[]).toList&&true)))) (.k false) (.bn (zb x_.Args) fun r1=>.i (r1) (.k false) (.bn (zvQ x_.Row) fun r0=>.i (r0) (.k (Int.ofNat x_.Args.length==0)) (.k false))))))) (.i (x_.Kind==1) (.i (x_.Func != 0) (.k false) (.i (Int.ofNat x_.Items.length != 0) (.k false) (.i (x_.Op != 0) (.k false) (.i (!(x_.Bound.Kind==0&&(x_.Bound.Int==0&&(x_.Bound.Text.toList==(ByteArray.mk #[]).toList&&true)))) (.k false) (.i (!(x_.Row.Table==0&&(x_.Row.Seq==0&&true))) (.k false) (.bn (zb x_.Args) fun r3=>.i (r3) (.k false) (.i (Int.ofNat x_.Args.length==2) (.i (decide ((0:Int)≤(0:Int))&&decide (0<Int.ofNat x_.Args.length)) (.i (decide ((0:Int)≤(1:Int))&&decide (1<Int.ofNat x_.Args.length)) (.bn (zqe (x_.Args.getD (Int.toNat 0) default) (x_.Args.getD (Int.toNat 1) default)) fun r2=>.k (!r2)) .d) .d) (.k false)))))))) (.i (x_.Kind==2) (.i (x_.Func != 0) (.k false) (.i (Int.ofNat x_.Items.length != 0) (.k false) (.i (x_.Op != 0) (.k false) (.i (!(x_.Bound.Kind==0&&(x_.Bound.Int==0&&(x_.Bound.Text.toList==(ByteArray.mk #[]).toList&&true)))) (.k false) (.i (!(x_.Row.Table==0&&(x_.Row.Seq==0&&true))) (.k false) (.bn (zb x_.Args) fun r6=>.i (r6) (.k false) (.i (Int.ofNat x_.Args.length==1) (.i (decide ((0:Int)≤(0:Int))&&decide (0<Int.ofNat x_.Args.length)) (.bn (zln (x_.Args.getD (Int.toNat 0) default)) fun r5=>.i (!r5) (.i (decide ((0:Int)≤(0:Int))&&decide (0<Int.ofNat x_.Args.length)) (.bn (zpf (x_.Args.getD (Int.toNat 0) default)) fun r4=>.k (!r4)) .d) (.k false)) .d) (.k false)))))))) (.i (x_.Kind==3) (.i (x_.Func != 0) (.k false) (.i (Int.ofNat x_.Items.length != 0) (.k false) (.i (x_.Op != 0) (.k false) (.i (!(x_.Bound.Kind==0&&(x_.Bound.Int==0&&(x_.Bound.Text.toList==(ByteArray.mk #[]).toList&&true)))) (.k false) (.i (!(x_.Row.Table==0&&(x_.Row.Seq==0&&true))) (.k false) (.bn (zb x_.Args) fun r8=>.i (r8) (.k false) (.i (Int.ofNat x_.Args.length==1) (.i (decide ((0:Int)≤(0:Int))&&decide (0<Int.ofNat x_.Args.length)) (.bn (zkq (x_.Args.getD (Int.toNat 0) default)) fun r7=>.k (!r7)) .d) (.k false)))))))) (.i (x_.Kind==4) (.i (!(x_.Row.Table==0&&(x_.Row.Seq==0&&true))) (.k false) (.bn (zb x_.Args) fun r12=>.i (r12) (.k false) (.bn (zc x_.Items) fun r11=>.i (Int.ofNat x_.Args.length==0) (.i (decide (Int.ofNat x_.Items.length>0)) (.i (!r11) (.bn (zcZ x_.Items) fun r10=>.i (r10) (.bn (zoc x_.Func x_.Items x_.Op x_.Bound) fun r9=>.k r9) (.k false)) (.k false)) (.k false)) (.k false)))) (.i (x_.Func != 0) (.k false) (.i (Int.ofNat x_.Items.length != 0) (.k false) (.i (x_.Op != 0) (.k false) (.i (!(x_.Bound.Kind==0&&(x_.Bound.Int==0&&(x_.Bound.Text.toList==(ByteArray.mk #[]).toList&&true)))) (.k false) (.i (!(x_.Row.Table==0&&(x_.Row.Seq==0&&true))) (.k false) (.bn (zb x_.Args) fun r14=>.i (r14) (.k false) (.k false)))))))))))
def zpm (zb:List (List Term)→Bool×Bool) (ze:List Term→Bool×Bool) (zc:List Weighted→Bool×Bool) (zd:Weighted→Bool×Bool) (x_:Atom):Bool×Bool:=(zbv zb ze zc zd x_).fin default
theorem ztt (zb:List (List Term)→Bool×Bool) (ze:List Term→Bool×Bool) (zc:List Weighted→Bool×Bool) (zd:Weighted→Bool×Bool) (v_Row:RowID) (v_Args:List (List Term)) (v_Func:Int) (v_Items:List Weighted) (v_Op:Int) (v_Bound:Value)  :zgE (zbK zb ze zc zd) Tryz.f111 (body Tryz.f111) ⟨[.pure],[]⟩ [.pure (.agg (base.enc 158 (Atom.mk (Int.ofNat 0) v_Row v_Args v_Func v_Items v_Op v_Bound)))]=(zbv zb ze zc zd (Atom.mk (Int.ofNat 0) v_Row v_Args v_Func v_Items v_Op v_Bound)).ev noH (fun r=>some (zbw r)) none:=by kernel_rfl
theorem ztF (zb:List (List Term)→Bool×Bool) (ze:List Term→Bool×Bool) (zc:List Weighted→Bool×Bool) (zd:Weighted→Bool×Bool) (v_Row:RowID) (v_Args:List (List Term)) (v_Func:Int) (v_Items:List Weighted) (v_Op:Int) (v_Bound:Value)  :zgE (zbK zb ze zc zd) Tryz.f111 (body Tryz.f111) ⟨[.pure],[]⟩ [.pure (.agg (base.enc 158 (Atom.mk (Int.ofNat 1) v_Row v_Args v_Func v_Items v_Op v_Bound)))]=(zbv zb ze zc zd (Atom.mk (Int.ofNat 1) v_Row v_Args v_Func v_Items v_Op v_Bound)).ev noH (fun r=>some (zbw r)) none:=by kernel_rfl
theorem ztn (zb:List (List Term)→Bool×Bool) (ze:List Term→Bool×Bool) (zc:List Weighted→Bool×Bool) (zd:Weighted→Bool×Bool) (v_Row:RowID) (v_Args:List (List Term)) (v_Func:Int) (v_Items:List Weighted) (v_Op:Int) (v_Bound:Value)  :zgE (zbK zb ze zc zd) Tryz.f111 (body Tryz.f111) ⟨[.pure],[]⟩ [.pure (.agg (base.enc 158 (Atom.mk (Int.ofNat 2) v_Row v_Args v_Func v_Items v_Op v_Bound)))]=(zbv zb ze zc zd (Atom.mk (Int.ofNat 2) v_Row v_Args v_Func v_Items v_Op v_Bound)).ev noH (fun r=>some (zbw r)) none:=by kernel_rfl
theorem ztv (zb:List (List Term)→Bool×Bool) (ze:List Term→Bool×Bool) (zc:List Weighted→Bool×Bool) (zd:Weighted→Bool×Bool) (v_Row:RowID) (v_Args:List (List Term)) (v_Func:Int) (v_Items:List Weighted) (v_Op:Int) (v_Bound:Value)  :zgE (zbK zb ze zc zd) Tryz.f111 (body Tryz.f111) ⟨[.pure],[]⟩ [.pure (.agg (base.enc 158 (Atom.mk (Int.ofNat 3) v_Row v_Args v_Func v_Items v_Op v_Bound)))]=(zbv zb ze zc zd (Atom.mk (Int.ofNat 3) v_Row v_Args v_Func v_Items v_Op v_Bound)).ev noH (fun r=>some (zbw r)) none:=by kernel_rfl
theorem ztI (zb:List (List Term)→Bool×Bool) (ze:List Term→Bool×Bool) (zc:List Weighted→Bool×Bool) (zd:Weighted→Bool×Bool) (v_Row:RowID) (v_Args:List (List Term)) (v_Func:Int) (v_Items:List Weighted) (v_Op:Int) (v_Bound:Value)  :zgE (zbK zb ze zc zd) Tryz.f111 (body Tryz.f111) ⟨[.pure],[]⟩ [.pure (.agg (base.enc 158 (Atom.mk (Int.ofNat 4) v_Row v_Args v_Func v_Items v_Op v_Bound)))]=(zbv zb ze zc zd (Atom.mk (Int.ofNat 4) v_Row v_Args v_Func v_Items v_Op v_Bound)).ev noH (fun r=>some (zbw r)) none:=by kernel_rfl
theorem ztP (zb:List (List Term)→Bool×Bool) (ze:List Term→Bool×Bool) (zc:List Weighted→Bool×Bool) (zd:Weighted→Bool×Bool) (n:Nat) (v_Row:RowID) (v_Args:List (List Term)) (v_Func:Int) (v_Items:List Weighted) (v_Op:Int) (v_Bound:Value)  :zgE (zbK zb ze zc zd) Tryz.f111 (body Tryz.f111) ⟨[.pure],[]⟩ [.pure (.agg (base.enc 158 (Atom.mk (Int.ofNat (n+5)) v_Row v_Args v_Func v_Items v_Op v_Bound)))]=(zbv zb ze zc zd (Atom.mk (Int.ofNat (n+5)) v_Row v_Args v_Func v_Items v_Op v_Bound)).ev noH (fun r=>some (zbw r)) none:=by kernel_rfl
theorem zt4 (zb:List (List Term)→Bool×Bool) (ze:List Term→Bool×Bool) (zc:List Weighted→Bool×Bool) (zd:Weighted→Bool×Bool) (n:Nat) (v_Row:RowID) (v_Args:List (List Term)) (v_Func:Int) (v_Items:List Weighted) (v_Op:Int) (v_Bound:Value)  :zgE (zbK zb ze zc zd) Tryz.f111 (body Tryz.f111) ⟨[.pure],[]⟩ [.pure (.agg (base.enc 158 (Atom.mk (Int.negSucc n) v_Row v_Args v_Func v_Items v_Op v_Bound)))]=(zbv zb ze zc zd (Atom.mk (Int.negSucc n) v_Row v_Args v_Func v_Items v_Op v_Bound)).ev noH (fun r=>some (zbw r)) none:=by kernel_rfl
theorem zuC (zb:List (List Term)→Bool×Bool) (ze:List Term→Bool×Bool) (zc:List Weighted→Bool×Bool) (zd:Weighted→Bool×Bool) (x_:Atom):zgE (zbK zb ze zc zd) Tryz.f111 (body Tryz.f111) ⟨[.pure],[]⟩ [.pure (.agg (base.enc 158 x_))]=(zbv zb ze zc zd x_).ev noH (fun r=>some (zbw r)) none:=by
 obtain ⟨v_Kind,v_Row,v_Args,v_Func,v_Items,v_Op,v_Bound⟩:=x_
 match v_Kind with
 | .ofNat 0=>exact ztt zb ze zc zd v_Row v_Args v_Func v_Items v_Op v_Bound 
 | .ofNat 1=>exact ztF zb ze zc zd v_Row v_Args v_Func v_Items v_Op v_Bound 
 | .ofNat 2=>exact ztn zb ze zc zd v_Row v_Args v_Func v_Items v_Op v_Bound 
 | .ofNat 3=>exact ztv zb ze zc zd v_Row v_Args v_Func v_Items v_Op v_Bound 
 | .ofNat 4=>exact ztI zb ze zc zd v_Row v_Args v_Func v_Items v_Op v_Bound 
 | .ofNat (n+5)=>exact ztP zb ze zc zd n v_Row v_Args v_Func v_Items v_Op v_Bound 
 | .negSucc n=>exact zt4 zb ze zc zd n v_Row v_Args v_Func v_Items v_Op v_Bound 
theorem zs2 (zb:List (List Term)→Bool×Bool) (ze:List Term→Bool×Bool) (zc:List Weighted→Bool×Bool) (zd:Weighted→Bool×Bool) (zhF:Sound Tryz.prog base 148 (zbr zb)) (zd1:Sound Tryz.prog base 149 (zb1 ze)) (zil:Sound Tryz.prog base 155 (zbF zc)) (zdV:Sound Tryz.prog base 156 (zb0 zd)):Sound Tryz.prog base 111 (zh4 (zpm zb ze zc zd)):=
 zu (cx':=(zbK zb ze zc zd)) zH zn zD (zx ⟨zkC,zhF,zd1,zBv,zyf,ztr,zw9,zsN,zil,zdV,ziE,zwo,trivial⟩) Tryz.call111 Tryz.func111 (c:=body Tryz.f111) (by kernel_rfl) (zh (l:=[]) (by kernel_rfl) trivial) (sg:=⟨[.pure],[]⟩) (A:=zpL) (res:=zbw) (W:=fun x=>zbv zb ze zc zd x.1) (z:=default) (fun x=>zuC zb ze zc zd x.1) (fun _=>by kernel_rfl)
def zs7 (zU:List Term→Bool×Bool):Cx ty:=mkCx base 11 [(69,(zfm zU))] [] [] [] [] []
def zlN (zU:List Term→Bool×Bool) (a:List Term):Wy0 (Bool):=.bn (zU a) fun r0=>.i (!r0) (.k true) (.k (Int.ofNat a.length==0))
def zm4 (zU:List Term→Bool×Bool) (a:List Term):Bool×Bool:=(zlN zU a).fin default
theorem zrf (zU:List Term→Bool×Bool) (zl9:Sound Tryz.prog base 69 (zfm zU)):Sound Tryz.prog base 149 (zb1 (zm4 zU)):=
 zu (cx':=(zs7 zU)) zH zn zD (zx ⟨zl9,trivial⟩) Tryz.call149 Tryz.func149 (c:=body Tryz.f149) (by kernel_rfl) (zh (l:=[]) (by kernel_rfl) trivial) (sg:=⟨[.pure],[]⟩) (A:=zny) (res:=zlU) (W:=fun x=>zlN zU x.1) (z:=default)
def zta (zU:List Term→Bool×Bool):Cx ty:=mkCx base 13 [(69,(zfm zU))] [] [] [] [] []
def zlF (zU:List Term→Bool×Bool) (w:Weighted):Wy0 (Bool):=.bn (zU w.Ann) fun r0=>.i (!r0) (.k true) (.k (Int.ofNat w.Ann.length==0))
def zm0 (zU:List Term→Bool×Bool) (w:Weighted):Bool×Bool:=(zlF zU w).fin default
theorem zra (zU:List Term→Bool×Bool) (zl9:Sound Tryz.prog base 69 (zfm zU)):Sound Tryz.prog base 156 (zb0 (zm0 zU)):=
 zu (cx':=(zta zU)) zH zn zD (zx ⟨zl9,trivial⟩) Tryz.call156 Tryz.func156 (c:=body Tryz.f156) (by kernel_rfl) (zh (l:=[]) (by kernel_rfl) trivial) (sg:=⟨[.pure],[]⟩) (A:=znz) (res:=zlx) (W:=fun x=>zlF zU x.1) (z:=default)
def zhx (ze:List Term→Bool×Bool) (zI:List (List Term)→Bool×Int):Cx ty:=mkCx base 9 [(149,(zb1 ze)),(199,(zby zI))] [] [] [] [] []
def zdr (ze:List Term→Bool×Bool) (zI:List (List Term)→Bool×Int) (s:List (List Term)):Wy0 (Bool):=.bn (zI s) fun r0=>.k (decide (r0≥0))
def zdN (ze:List Term→Bool×Bool) (zI:List (List Term)→Bool×Int) (s:List (List Term)):Bool×Bool:=(zdr ze zI s).fin default
theorem zg8 (ze:List Term→Bool×Bool) (zI:List (List Term)→Bool×Int) (zd1:Sound Tryz.prog base 149 (zb1 ze)) (zik:Sound Tryz.prog base 199 (zby zI)):Sound Tryz.prog base 148 (zbr (zdN ze zI)):=
 zu (cx':=(zhx ze zI)) zH zn zD (zx ⟨zd1,zik,trivial⟩) Tryz.call148 Tryz.func148 (c:=body Tryz.f148) (by kernel_rfl) (zh (l:=[]) (by kernel_rfl) trivial) (sg:=⟨[.pure],[]⟩) (A:=zdO) (res:=zdq) (W:=fun x=>zdr ze zI x.1) (z:=default)
def zig (zd:Weighted→Bool×Bool) (zJ:List Weighted→Bool×Int):Cx ty:=mkCx base 9 [(156,(zb0 zd)),(201,(zbP zJ))] [] [] [] [] []
def zea (zd:Weighted→Bool×Bool) (zJ:List Weighted→Bool×Int) (s:List Weighted):Wy0 (Bool):=.bn (zJ s) fun r0=>.k (decide (r0≥0))
def zeC (zd:Weighted→Bool×Bool) (zJ:List Weighted→Bool×Int) (s:List Weighted):Bool×Bool:=(zea zd zJ s).fin default
theorem zhK (zd:Weighted→Bool×Bool) (zJ:List Weighted→Bool×Int) (zdV:Sound Tryz.prog base 156 (zb0 zd)) (zjg:Sound Tryz.prog base 201 (zbP zJ)):Sound Tryz.prog base 155 (zbF (zeC zd zJ)):=
 zu (cx':=(zig zd zJ)) zH zn zD (zx ⟨zdV,zjg,trivial⟩) Tryz.call155 Tryz.func155 (c:=body Tryz.f155) (by kernel_rfl) (zh (l:=[]) (by kernel_rfl) trivial) (sg:=⟨[.pure],[]⟩) (A:=zex) (res:=zeb) (W:=fun x=>zea zd zJ x.1) (z:=default)
abbrev ttTslicesIndexFuncLapiAnnotationapiAnnotationv10:=List (List Term)×Unit×Int×Int×Unit
def zh3 (ze:List Term→Bool×Bool) (s:List (List Term)) (t7:Int) (t8:Int):Wy ttTslicesIndexFuncLapiAnnotationapiAnnotationv10 (Unit) (Int⊕Unit):=.i (decide (t8<t7)) (.i (decide (0≤t8)&&decide (t8<Int.ofNat s.length)) (.bn (ze (s.getD t8.toNat default)) fun r0=>.i (r0) (.k (.inl t8)) (.h (s,(),t7,(IntKind.i64.wrap (t8+1)),()) ())) .d) (.k (.inr ()))
def zb9 (ze:List Term→Bool×Bool) (x:ttTslicesIndexFuncLapiAnnotationapiAnnotationv10) (y:Unit):Wy ttTslicesIndexFuncLapiAnnotationapiAnnotationv10 (Unit) (Int⊕Unit):=zh3 ze x.1 x.2.2.1 x.2.2.2.1
def zhX (ze:List Term→Bool×Bool) (n:Nat) (s:List (List Term)) (t7:Int) (t8:Int):Bool×(Int⊕Unit):=zN (zb9 ze) (.inl default) n (s,(),t7,t8,()) ()
def zdH (r:Int⊕Unit):LTree ty:=.ite (isL r) (.done .ret [.lit (.int .i64 (getL r))] []) (.done (.exit 0) [] [])
def zdT:LL ty ttTslicesIndexFuncLapiAnnotationapiAnnotationv10:=za (lSl 36) (za (lFn 149 (zG)) (za (lInt .i64) (za (lInt .i64) zG)))
def zdL:BL ty (Unit):=bNil
def zdD (x:ttTslicesIndexFuncLapiAnnotationapiAnnotationv10) (y:Unit):Nat:=(x.1.length+Int.toNat x.2.2.1+Int.toNat x.2.2.2.1+1000)
def zdP (ze:List Term→Bool×Bool):Cx ty:=mkCx base 19 [(149,(zb1 ze))] [] [(2,[(0,.keep),(1,.keep),(7,.keep),(8,.keep)])] [(2,1,[]),(2,0,[(4,.keep)])] [(2,spW zdT zdL (zb9 ze) (.inl default) zdH zdD)] []
theorem zhN (ze:List Term→Bool×Bool):zS (zdP ze) (lp (body Tryz.f199) 0):=zL (id:=2) (V:=zdT) (B:=zdL) (W:=zb9 ze) (z:=.inl default) (tr:=zdH) (m:=zdD)
def zdX (ze:List Term→Bool×Bool) (s:List (List Term)):Wy0 (Int):=.bn (zhX ze (s.length+(Int.ofNat s.length).toNat +Int.toNat 0+1000) s (Int.ofNat s.length) 0) fun r2=>.i (isL r2) (.k (getL r2)) (.k (-1:Int))
def zeg (ze:List Term→Bool×Bool) (s:List (List Term)):Bool×Int:=(zdX ze s).fin default
theorem zhy (ze:List Term→Bool×Bool) (zd1:Sound Tryz.prog base 149 (zb1 ze)):Sound Tryz.prog base 199 (zby (zeg ze)):=
 zu (cx':=(zdP ze)) zH zn zD (zx ⟨zd1,trivial⟩) Tryz.call199 Tryz.func199 (c:=body Tryz.f199) (by kernel_rfl) (zh (l:=[lp (body Tryz.f199) 0]) (by kernel_rfl) ⟨zhN ze,trivial⟩) (sg:=⟨[.pure],[]⟩) (A:=zej) (res:=zdW) (W:=fun x=>zdX ze x.1) (z:=default)
abbrev ttTslicesIndexFuncLapiWeightedapiWeightedv20:=List Weighted×Unit×Int×Int×Unit
def zi0 (zd:Weighted→Bool×Bool) (s:List Weighted) (t7:Int) (t8:Int):Wy ttTslicesIndexFuncLapiWeightedapiWeightedv20 (Unit) (Int⊕Unit):=.i (decide (t8<t7)) (.i (decide (0≤t8)&&decide (t8<Int.ofNat s.length)) (.bn (zd (s.getD t8.toNat default)) fun r0=>.i (r0) (.k (.inl t8)) (.h (s,(),t7,(IntKind.i64.wrap (t8+1)),()) ())) .d) (.k (.inr ()))
def zcv (zd:Weighted→Bool×Bool) (x:ttTslicesIndexFuncLapiWeightedapiWeightedv20) (y:Unit):Wy ttTslicesIndexFuncLapiWeightedapiWeightedv20 (Unit) (Int⊕Unit):=zi0 zd x.1 x.2.2.1 x.2.2.2.1
def ziZ (zd:Weighted→Bool×Bool) (n:Nat) (s:List Weighted) (t7:Int) (t8:Int):Bool×(Int⊕Unit):=zN (zcv zd) (.inl default) n (s,(),t7,t8,()) ()
def zel (r:Int⊕Unit):LTree ty:=.ite (isL r) (.done .ret [.lit (.int .i64 (getL r))] []) (.done (.exit 0) [] [])
def zey:LL ty ttTslicesIndexFuncLapiWeightedapiWeightedv20:=za (lSl 182) (za (lFn 156 (zG)) (za (lInt .i64) (za (lInt .i64) zG)))
def zeu:BL ty (Unit):=bNil
def zem (x:ttTslicesIndexFuncLapiWeightedapiWeightedv20) (y:Unit):Nat:=(x.1.length+Int.toNat x.2.2.1+Int.toNat x.2.2.2.1+1000)
def zeD (zd:Weighted→Bool×Bool):Cx ty:=mkCx base 19 [(156,(zb0 zd))] [] [(2,[(0,.keep),(1,.keep),(7,.keep),(8,.keep)])] [(2,1,[]),(2,0,[(4,.keep)])] [(2,spW zey zeu (zcv zd) (.inl default) zel zem)] []
theorem ziL (zd:Weighted→Bool×Bool):zS (zeD zd) (lp (body Tryz.f201) 0):=zL (id:=2) (V:=zey) (B:=zeu) (W:=zcv zd) (z:=.inl default) (tr:=zel) (m:=zem)
def zeI (zd:Weighted→Bool×Bool) (s:List Weighted):Wy0 (Int):=.bn (ziZ zd (s.length+(Int.ofNat s.length).toNat +Int.toNat 0+1000) s (Int.ofNat s.length) 0) fun r2=>.i (isL r2) (.k (getL r2)) (.k (-1:Int))
def zfd (zd:Weighted→Bool×Bool) (s:List Weighted):Bool×Int:=(zeI zd s).fin default
theorem zif (zd:Weighted→Bool×Bool) (zdV:Sound Tryz.prog base 156 (zb0 zd)):Sound Tryz.prog base 201 (zbP (zfd zd)):=
 zu (cx':=(zeD zd)) zH zn zD (zx ⟨zdV,trivial⟩) Tryz.call201 Tryz.func201 (c:=body Tryz.f201) (by kernel_rfl) (zh (l:=[lp (body Tryz.f201) 0]) (by kernel_rfl) ⟨ziL zd,trivial⟩) (sg:=⟨[.pure],[]⟩) (A:=zfi) (res:=zeH) (W:=fun x=>zeI zd x.1) (z:=default)
def zcE:Nat→(List Term→Bool×Bool)×(Atom→Bool×Bool)×(List Term→Bool×Bool)×(Weighted→Bool×Bool)×(List (List Term)→Bool×Int)×(List (List Term)→Bool×Bool)×(List Weighted→Bool×Int)×(List Weighted→Bool×Bool)
 | 0=>(fun _=>(false,default),fun _=>(false,default),fun _=>(false,default),fun _=>(false,default),fun _=>(false,default),fun _=>(false,default),fun _=>(false,default),fun _=>(false,default))
 | n+1=>(ztO ((zcE n).2.1),zpm ((zcE n).2.2.2.2.2.1) ((zcE n).2.2.1) ((zcE n).2.2.2.2.2.2.2) ((zcE n).2.2.2.1),zm4 ((zcE n).1),zm0 ((zcE n).1),zeg ((zcE n).2.2.1),zdN ((zcE n).2.2.1) ((zcE n).2.2.2.2.1),zfd ((zcE n).2.2.2.1),zeC ((zcE n).2.2.2.1) ((zcE n).2.2.2.2.2.2.1))
def ztM (n:Nat):List Term→Bool×Bool:=(zcE n).1
def zxZ (n:Nat):Atom→Bool×Bool:=(zcE n).2.1
def zvf (n:Nat):List Term→Bool×Bool:=(zcE n).2.2.1
def zvk (n:Nat):Weighted→Bool×Bool:=(zcE n).2.2.2.1
def ziO (n:Nat):List (List Term)→Bool×Int:=(zcE n).2.2.2.2.1
def zh5 (n:Nat):List (List Term)→Bool×Bool:=(zcE n).2.2.2.2.2.1
def zjI (n:Nat):List Weighted→Bool×Int:=(zcE n).2.2.2.2.2.2.1
def ziT (n:Nat):List Weighted→Bool×Bool:=(zcE n).2.2.2.2.2.2.2
theorem zCH:∀ n,Sound Tryz.prog base 69 (zfm (ztM n))∧Sound Tryz.prog base 111 (zh4 (zxZ n))∧Sound Tryz.prog base 149 (zb1 (zvf n))∧Sound Tryz.prog base 156 (zb0 (zvk n))∧Sound Tryz.prog base 199 (zby (ziO n))∧Sound Tryz.prog base 148 (zbr (zh5 n))∧Sound Tryz.prog base 201 (zbP (zjI n))∧Sound Tryz.prog base 155 (zbF (ziT n))
 | 0=>⟨zbs Tryz.call69 (fun _=>rfl),zbs Tryz.call111 (fun _=>rfl),zbs Tryz.call149 (fun _=>rfl),zbs Tryz.call156 (fun _=>rfl),zbs Tryz.call199 (fun _=>rfl),zbs Tryz.call148 (fun _=>rfl),zbs Tryz.call201 (fun _=>rfl),zbs Tryz.call155 (fun _=>rfl)⟩
 | n+1=>by
  have ih:=zCH n
  exact ⟨zwD _ (ih.2.1),zs2 _ _ _ _ (ih.2.2.2.2.2.1) (ih.2.2.1) (ih.2.2.2.2.2.2.2) (ih.2.2.2.1),zrf _ (ih.1),zra _ (ih.1),zhy _ (ih.2.2.1),zg8 _ _ (ih.2.2.1) (ih.2.2.2.2.1),zif _ (ih.2.2.2.1),zhK _ _ (ih.2.2.2.1) (ih.2.2.2.2.2.2.1)⟩
def zmn:List Term→Bool×Bool:=ztM 1000
def annotation_Valid_spec:Ab.Spec ty:=zfm zmn
theorem zyp:Sound Tryz.prog base 69 annotation_Valid_spec:=(zCH 1000).1
def zBC (r:List Term×Int):ARes ty:=⟨[.own 152 r.1,.pure (.lit (.int .i64 r.2))],[]⟩
def zDu:AL base (List Term×List Term×Unit):=zf (zg (vSl 152)) (zf (zg (vSl 152)) aNil)
def zC8 (F:List Term→List Term→Bool×(List Term×Int)):Ab.Spec ty:=zm zDu fun x=>((F x.1 x.2.1).1,zBC (F x.1 x.2.1).2)
def zyJ:List Term→List Term→Bool×(List Term×Int):=fun a _=>(decide (a.length=a.length+1),default)
def annotation_Add_spec:Ab.Spec ty:=zC8 zyJ
theorem zzG:Sound Tryz.prog base 77 annotation_Add_spec:=zbs Tryz.call77 (fun _=>decide_eq_false (Nat.ne_of_lt (Nat.lt_succ_self _)))
def zwb:Cx ty:=mkCx base 7 [] [] [] [] [] []
def zoI (x_:Row):Wy0 (Bool):=.k (Int.ofNat x_.Ann.length==0)
def zio (x_:Row):Bool×Bool:=(zoI x_).fin default
def znq (r:Bool):ARes ty:=⟨[.pure (.lit (.bool r))],[]⟩
def zoJ:AL base (Row×Unit):=zf (zg (vAgg 38)) aNil
def zgD:Ab.Spec ty:=zm zoJ fun x=>((zio x.1).1,znq (zio x.1).2)
theorem zih:Sound Tryz.prog base 72 zgD:=
 zu (cx':=zwb) zH zn zD (zx trivial) Tryz.call72 Tryz.func72 (c:=body Tryz.f72) (by kernel_rfl) (zh (l:=[]) (by kernel_rfl) trivial) (sg:=⟨[.pure],[]⟩) (A:=zoJ) (res:=znq) (W:=fun x=>zoI x.1) (z:=default)
abbrev ttTslicesCompareFuncLapiValueLapiValueapiValueapiValue0:=List Value×List Value×Unit×List Value×Int×Int×Unit
abbrev ttTslicesCompareFuncLapiValueLapiValueapiValueapiValue1:=Int⊕(List Value×List Value)
def zgY (s1:List Value) (s2:List Value) (t11:List Value) (t12:Int) (t13:Int):Wy ttTslicesCompareFuncLapiValueLapiValueapiValueapiValue0 (Unit) ttTslicesCompareFuncLapiValueLapiValueapiValueapiValue1:=.i (decide (t13<t12)) (.i (decide (0≤t13)&&decide (t13<Int.ofNat t11.length)) (.i (decide (t13≥Int.ofNat s2.length)) (.k (.inl 1)) (.i (decide (0≤t13)&&decide (t13<Int.ofNat s2.length)) (.bn (zbd (t11.getD t13.toNat default) (s2.getD t13.toNat default)) fun r0=>.i (r0 != 0) (.k (.inl (r0))) (.h (s1,s2,(),t11,t12,(IntKind.i64.wrap (t13+1)),()) ())) .d)) .d) (.k (.inr (s1,s2)))
def zbJ (x:ttTslicesCompareFuncLapiValueLapiValueapiValueapiValue0) (y:Unit):Wy ttTslicesCompareFuncLapiValueLapiValueapiValueapiValue0 (Unit) ttTslicesCompareFuncLapiValueLapiValueapiValueapiValue1:=zgY x.1 x.2.1 x.2.2.2.1 x.2.2.2.2.1 x.2.2.2.2.2.1
def zgS (n:Nat) (s1:List Value) (s2:List Value) (t11:List Value) (t12:Int) (t13:Int):Bool×ttTslicesCompareFuncLapiValueLapiValueapiValueapiValue1:=zN (zbJ) (.inl default) n (s1,s2,(),t11,t12,t13,()) ()
def zcN (r:ttTslicesCompareFuncLapiValueLapiValueapiValueapiValue1):LTree ty:=.ite (isL r) (.done .ret [.lit (.int .i64 (getL r))] []) (.done (.exit 0) [.sl 40 (getR r).1,.sl 40 (getR r).2] [])
def zcS:LL ty ttTslicesCompareFuncLapiValueLapiValueapiValueapiValue0:=za (lSl 40) (za (lSl 40) (za (lFn 79 (zG)) (za (lSl 40) (za (lInt .i64) (za (lInt .i64) zG)))))
def zcU:BL ty (Unit):=bNil
def zcO (x:ttTslicesCompareFuncLapiValueLapiValueapiValueapiValue0) (y:Unit):Nat:=(x.1.length+x.2.1.length+x.2.2.2.1.length+Int.toNat x.2.2.2.2.1+Int.toNat x.2.2.2.2.2.1+1000)
def zcT:Cx ty:=mkCx base 39 [(79,zcb)] [] [(2,[(0,.keep),(1,.keep),(2,.keep),(11,.keep),(12,.keep),(13,.keep)])] [(2,1,[(0,.keep),(1,.keep)]),(2,0,[(6,.keep)])] [(2,spW zcS zcU (zbJ) (.inl default) zcN zcO)] []
theorem zgQ:zS zcT (lp (body Tryz.f161) 0):=zL (id:=2) (V:=zcS) (B:=zcU) (W:=zbJ) (z:=.inl default) (tr:=zcN) (m:=zcO)
def zcX (s1:List Value) (s2:List Value):Wy0 (Int):=.bn (zgS (s1.length+s2.length+s1.length+(Int.ofNat s1.length).toNat +Int.toNat 0+1000) s1 s2 s1 (Int.ofNat s1.length) 0) fun r2=>.i (isL r2) (.k (getL r2)) (.i (decide (Int.ofNat (getR r2).1.length<Int.ofNat (getR r2).2.length)) (.k (-1:Int)) (.k 0))
def zbN (s1:List Value) (s2:List Value):Bool×Int:=(zcX s1 s2).fin default
def zcM (r:Int):ARes ty:=⟨[.pure (.lit (.int .i64 r))],[]⟩
def zcW:AL base (List Value×List Value×Unit×Unit):=zf (zg (vSl 40)) (zf (zg (vSl 40)) (zf (zg (vFn 79 vNil)) aNil))
def zcL:Ab.Spec ty:=zm zcW fun x=>((zbN x.1 x.2.1).1,zcM (zbN x.1 x.2.1).2)
theorem zgu:Sound Tryz.prog base 161 zcL:=
 zu (cx':=zcT) zH zn zD (zx ⟨zcp,trivial⟩) Tryz.call161 Tryz.func161 (c:=body Tryz.f161) (by kernel_rfl) (zh (l:=[lp (body Tryz.f161) 0]) (by kernel_rfl) ⟨zgQ,trivial⟩) (sg:=⟨[.pure],[]⟩) (A:=zcW) (res:=zcM) (W:=fun x=>zcX x.1 x.2.1) (z:=default)
def zzR:Cx ty:=mkCx base 8 [(79,zcb),(161,zcL)] [] [] [] [] []
def zsM (a:List Value) (b:List Value):Wy0 (Int):=.bn (zbN a b) fun r0=>.k r0
def zph (a:List Value) (b:List Value):Bool×Int:=(zsM a b).fin default
def zq2 (r:Int):ARes ty:=⟨[.pure (.lit (.int .i64 r))],[]⟩
def zss:AL base (List Value×List Value×Unit):=zf (zg (vSl 40)) (zf (zg (vSl 40)) aNil)
def zpY:Ab.Spec ty:=zm zss fun x=>((zph x.1 x.2.1).1,zq2 (zph x.1 x.2.1).2)
theorem zw3:Sound Tryz.prog base 114 zpY:=
 zu (cx':=zzR) zH zn zD (zx ⟨zcp,zgu,trivial⟩) Tryz.call114 Tryz.func114 (c:=body Tryz.f114) (by kernel_rfl) (zh (l:=[]) (by kernel_rfl) trivial) (sg:=⟨[.pure],[]⟩) (A:=zss) (res:=zq2) (W:=fun x=>zsM x.1 x.2.1) (z:=default)
def zA5:Cx ty:=mkCx base 10 [(114,zpY)] [] [] [] [] []
def zt7 (x_:Row) (y_:Row):Wy0 (Int):=.bn (zph x_.Values y_.Values) fun r0=>.k r0
def zbC (x_:Row) (y_:Row):Bool×Int:=(zt7 x_ y_).fin default
def zr3 (r:Int):ARes ty:=⟨[.pure (.lit (.int .i64 r))],[]⟩
def ztA:AL base (Row×Row×Unit):=zf (zg (vAgg 38)) (zf (zg (vAgg 38)) aNil)
def zkW:Ab.Spec ty:=zm ztA fun x=>((zbC x.1 x.2.1).1,zr3 (zbC x.1 x.2.1).2)
theorem zp1:Sound Tryz.prog base 74 zkW:=
 zu (cx':=zA5) zH zn zD (zx ⟨zw3,trivial⟩) Tryz.call74 Tryz.func74 (c:=body Tryz.f74) (by kernel_rfl) (zh (l:=[]) (by kernel_rfl) trivial) (sg:=⟨[.pure],[]⟩) (A:=ztA) (res:=zr3) (W:=fun x=>zt7 x.1 x.2.1) (z:=default)
def zvh (r:List Term×Int):ARes ty:=⟨[.own 152 r.1,.pure (.lit (.int .i64 r.2))],[]⟩
def zw2:AL base (List Term×List Binding×Unit):=zf (zg (vSl 152)) (zf (zg (vSl 210)) aNil)
def zw4 (F:List Term→List Binding→Bool×(List Term×Int)):Ab.Spec ty:=zm zw2 fun x=>((F x.1 x.2.1).1,zvh (F x.1 x.2.1).2)
def zqN:List Term→List Binding→Bool×(List Term×Int):=fun a _=>(decide (a.length=a.length+1),default)
def annotation_Substitute_spec:Ab.Spec ty:=zw4 zqN
theorem ztq:Sound Tryz.prog base 115 annotation_Substitute_spec:=zbs Tryz.call115 (fun _=>decide_eq_false (Nat.ne_of_lt (Nat.lt_succ_self _)))
def zdb:Cx ty:={ base with nt:=8 }
def zgv (s:List Value):Bool×List Value:=(decide (s.length*32≤reach),s)
def zhJ:Ab.Spec ty:=zm (cx:=base) (zf (zg (vSl 40)) aNil) fun x=>((zgv x.1).1,⟨[.own 40 (zgv x.1).2],[]⟩)
theorem znI:zgE zdb Tryz.f51 (body Tryz.f51) ⟨[.own 40],[]⟩ [.pure (.lit (.slice none 0 0))]=some ⟨[.own 40 []],[]⟩:=by kernel_rfl
theorem zmx (p:Addr) (c:Nat):zgE zdb Tryz.f51 (body Tryz.f51) ⟨[.own 40],[]⟩ [.pure (.lit (.slice (some p) 0 c))]=some ⟨[.own 40 []],[]⟩:=by kernel_rfl
theorem zmW (l:List Value):zgE zdb Tryz.f51 (body Tryz.f51) ⟨[.own 40],[]⟩ [.pure (.sl 40 l)]=bif !l.isEmpty then bif decide ((([]:List (ty 40)).length+l.length)*32≤reach) then some ⟨[.own 40 l],[]⟩ else none else none:=by kernel_rfl
theorem zmD:Sound Tryz.prog base 51 zhJ:=
 zyn (cx':=zdb) (bytes:=32) zH zn ⟨⟨rfl,rfl,rfl,rfl,rfl,rfl⟩,rfl⟩ (fun g s h=>by cases h) Tryz.call51 Tryz.func51 (c:=body Tryz.f51) (by kernel_rfl) (zh (l:=[]) (by kernel_rfl) trivial) znI zmx zmW (by kernel_rfl)
def zBh:Cx ty:=mkCx base 17 [(51,zhJ),(115,annotation_Substitute_spec)] [] [] [] [] []
def zva (x_:Row) (a:List Term):Wy0 (Row):=.bn (zqN a []) fun r1=>.bn (zgv x_.Values) fun r0=>.k (⟨r0,r1.1⟩:Row)
def znv (x_:Row) (a:List Term):Bool×Row:=(zva x_ a).fin default
def zsK (r:Row):ARes ty:=⟨[.pure (.agg (base.enc 38 r))],[]⟩
def zu7:AL base (Row×List Term×Unit):=zf (zg (vAgg 38)) (zf (zg (vSl 152)) aNil)
def zrV:Ab.Spec ty:=zm zu7 fun x=>((znv x.1 x.2.1).1,zsK (znv x.1 x.2.1).2)
theorem zyV:Sound Tryz.prog base 76 zrV:=
 zu (cx':=zBh) zH zn zD (zx ⟨zmD,ztq,trivial⟩) Tryz.call76 Tryz.func76 (c:=body Tryz.f76) (by kernel_rfl) (zh (l:=[]) (by kernel_rfl) trivial) (sg:=⟨[.pure],[]⟩) (A:=zu7) (res:=zsK) (W:=fun x=>zva x.1 x.2.1) (z:=default)
def zA1:Cx ty:=mkCx base 16 [(83,zgO)] [] [] [] [] []
def zod (p:pair):Wy0 (Bool):=.bn (zgq p.v) fun r0=>.i (!r0) (.k true) (.k (p.v.Kind != p.c.Type_))
def zhP (p:pair):Bool×Bool:=(zod p).fin default
def zrZ (r:Bool):ARes ty:=⟨[.pure (.lit (.bool r))],[]⟩
def ztZ:AL base (pair×Unit):=zf (zg (vAgg 147)) aNil
def zin:Ab.Spec ty:=zm ztZ fun x=>((zhP x.1).1,zrZ (zhP x.1).2)
theorem zks:Sound Tryz.prog base 106 zin:=
 zu (cx':=zA1) zH zn zD (zx ⟨zho,trivial⟩) Tryz.call106 Tryz.func106 (c:=body Tryz.f106) (by kernel_rfl) (zh (l:=[]) (by kernel_rfl) trivial) (sg:=⟨[.pure],[]⟩) (A:=ztZ) (res:=zrZ) (W:=fun x=>zod x.1) (z:=default)
abbrev ttTrelationzip0:=List Column×Unit×List Value×Int×Int×Unit
abbrev ttTrelationzip1:=List pair×Unit
def zr7 (l:List Column) (t8:List Value) (t9:Int) (t10:Int) (out_:List pair):Wy ttTrelationzip0 ttTrelationzip1 (List pair):=.i (decide (t10<t9)) (.i (decide (0≤t10)&&decide (t10<Int.ofNat t8.length)) (.i (decide (0≤t10)&&decide (t10<Int.ofNat l.length)) (.i (decide ((out_.length+[pair.mk (l.getD t10.toNat default) (t8.getD t10.toNat default)].length)*56≤reach)) (.h (l,(),t8,t9,(IntKind.i64.wrap (t10+1)),()) ((out_++[pair.mk (l.getD t10.toNat default) (t8.getD t10.toNat default)]),())) .d) .d) .d) (.k out_)
def znA (x:ttTrelationzip0) (y:ttTrelationzip1):Wy ttTrelationzip0 ttTrelationzip1 (List pair):=zr7 x.1 x.2.2.1 x.2.2.2.1 x.2.2.2.2.1 y.1
def zrm (n:Nat) (l:List Column) (t8:List Value) (t9:Int) (t10:Int) (out_:List pair):Bool×List pair:=zN (znA) default n (l,(),t8,t9,t10,()) (out_,())
def zv9 (r:List pair):LTree ty:=.done (.exit 0) [.own 104] [.arr 147 r false]
def zxR:LL ty ttTrelationzip0:=za (lSl 67) (za (lOwn 104) (za (lSl 40) (za (lInt .i64) (za (lInt .i64) zG))))
def zxG:BL ty ttTrelationzip1:=bArr 147 false (bNil)
def zv2 (x:ttTrelationzip0) (y:ttTrelationzip1):Nat:=(x.1.length+x.2.2.1.length+Int.toNat x.2.2.2.1+Int.toNat x.2.2.2.2.1+y.1.length+1000)
def zxI:Cx ty:=mkCx base 26 [] [] [(3,[(0,.keep),(5,.own 147),(8,.keep),(9,.keep),(10,.keep)])] [(3,1,[(5,.keep)])] [(3,spW zxR zxG (znA) default zv9 zv2)] []
theorem zDk:zS zxI (lp (body Tryz.f105) 0):=zL (id:=3) (V:=zxR) (B:=zxG) (W:=znA) (z:=default) (tr:=zv9) (m:=zv2)
def ztc (l:List Column) (row:List Value):Wy0 (List pair):=.bn (zrm (l.length+row.length+(Int.ofNat row.length).toNat +Int.toNat 0+0+1000) l row (Int.ofNat row.length) 0 []) fun r0=>.k r0
def znL (l:List Column) (row:List Value):Bool×List pair:=(ztc l row).fin default
def zwe (r:List pair):ARes ty:=⟨[.own 147 r],[]⟩
def zy0:AL base (List Column×List Value×Unit):=zf (zg (vSl 67)) (zf (zg (vSl 40)) aNil)
def zu8:Ab.Spec ty:=zm zy0 fun x=>((znL x.1 x.2.1).1,zwe (znL x.1 x.2.1).2)
theorem zBJ:Sound Tryz.prog base 105 zu8:=
 zu (cx':=zxI) zH zn zD (zx trivial) Tryz.call105 Tryz.func105 (c:=body Tryz.f105) (by kernel_rfl) (zh (l:=[lp (body Tryz.f105) 0]) (by kernel_rfl) ⟨zDk,trivial⟩) (sg:=⟨[.own 147],[]⟩) (A:=zy0) (res:=zwe) (W:=fun x=>ztc x.1 x.2.1) (z:=default)
abbrev ttTslicesIndexFuncLrelationpairrelationpairfi0:=List pair×Unit×Int×Int×Unit
def ziW (s:List pair) (t7:Int) (t8:Int):Wy ttTslicesIndexFuncLrelationpairrelationpairfi0 (Unit) (Int⊕Unit):=.i (decide (t8<t7)) (.i (decide (0≤t8)&&decide (t8<Int.ofNat s.length)) (.bn (zhP (s.getD t8.toNat default)) fun r0=>.i (r0) (.k (.inl t8)) (.h (s,(),t7,(IntKind.i64.wrap (t8+1)),()) ())) .d) (.k (.inr ()))
def zcw (x:ttTslicesIndexFuncLrelationpairrelationpairfi0) (y:Unit):Wy ttTslicesIndexFuncLrelationpairrelationpairfi0 (Unit) (Int⊕Unit):=ziW x.1 x.2.2.1 x.2.2.2.1
def ziX (n:Nat) (s:List pair) (t7:Int) (t8:Int):Bool×(Int⊕Unit):=zN (zcw) (.inl default) n (s,(),t7,t8,()) ()
def zeh (r:Int⊕Unit):LTree ty:=.ite (isL r) (.done .ret [.lit (.int .i64 (getL r))] []) (.done (.exit 0) [] [])
def zes:LL ty ttTslicesIndexFuncLrelationpairrelationpairfi0:=za (lSl 147) (za (lFn 106 (zG)) (za (lInt .i64) (za (lInt .i64) zG)))
def zeB:BL ty (Unit):=bNil
def zei (x:ttTslicesIndexFuncLrelationpairrelationpairfi0) (y:Unit):Nat:=(x.1.length+Int.toNat x.2.2.1+Int.toNat x.2.2.2.1+1000)
def zeA:Cx ty:=mkCx base 19 [(106,zin)] [] [(2,[(0,.keep),(1,.keep),(7,.keep),(8,.keep)])] [(2,1,[]),(2,0,[(4,.keep)])] [(2,spW zes zeB (zcw) (.inl default) zeh zei)] []
theorem ziI:zS zeA (lp (body Tryz.f135) 0):=zL (id:=2) (V:=zes) (B:=zeB) (W:=zcw) (z:=.inl default) (tr:=zeh) (m:=zei)
def zeQ (s:List pair):Wy0 (Int):=.bn (ziX (s.length+(Int.ofNat s.length).toNat +Int.toNat 0+1000) s (Int.ofNat s.length) 0) fun r2=>.i (isL r2) (.k (getL r2)) (.k (-1:Int))
def zbO (s:List pair):Bool×Int:=(zeQ s).fin default
def zee (r:Int):ARes ty:=⟨[.pure (.lit (.int .i64 r))],[]⟩
def zeU:AL base (List pair×Unit×Unit):=zf (zg (vSl 147)) (zf (zg (vFn 106 vNil)) aNil)
def zed:Ab.Spec ty:=zm zeU fun x=>((zbO x.1).1,zee (zbO x.1).2)
theorem zh9:Sound Tryz.prog base 135 zed:=
 zu (cx':=zeA) zH zn zD (zx ⟨zks,trivial⟩) Tryz.call135 Tryz.func135 (c:=body Tryz.f135) (by kernel_rfl) (zh (l:=[lp (body Tryz.f135) 0]) (by kernel_rfl) ⟨ziI,trivial⟩) (sg:=⟨[.pure],[]⟩) (A:=zeU) (res:=zee) (W:=fun x=>zeQ x.1) (z:=default)
def zid:Cx ty:=mkCx base 9 [(106,zin),(135,zed)] [] [] [] [] []
def zch (s:List pair):Wy0 (Bool):=.bn (zbO s) fun r0=>.k (decide (r0≥0))
def zbg (s:List pair):Bool×Bool:=(zch s).fin default
def zdM (r:Bool):ARes ty:=⟨[.pure (.lit (.bool r))],[]⟩
def zd9:AL base (List pair×Unit×Unit):=zf (zg (vSl 147)) (zf (zg (vFn 106 vNil)) aNil)
def zdz:Ab.Spec ty:=zm zd9 fun x=>((zbg x.1).1,zdM (zbg x.1).2)
theorem zhI:Sound Tryz.prog base 104 zdz:=
 zu (cx':=zid) zH zn zD (zx ⟨zks,zh9,trivial⟩) Tryz.call104 Tryz.func104 (c:=body Tryz.f104) (by kernel_rfl) (zh (l:=[]) (by kernel_rfl) trivial) (sg:=⟨[.pure],[]⟩) (A:=zd9) (res:=zdM) (W:=fun x=>zch x.1) (z:=default)
def zDg:Cx ty:=mkCx base 17 [(104,zdz),(105,zu8),(106,zin)] [] [] [] [] []
def zrX (l:List Column) (row:List Value):Wy0 (Bool):=.i (Int.ofNat l.length==Int.ofNat row.length) (.bn (znL l row) fun r1=>.bn (zbg r1) fun r0=>.k (!r0)) (.k false)
def zj6 (l:List Column) (row:List Value):Bool×Bool:=(zrX l row).fin default
def zuZ (r:Bool):ARes ty:=⟨[.pure (.lit (.bool r))],[]⟩
def zxx:AL base (List Column×List Value×Unit):=zf (zg (vSl 67)) (zf (zg (vSl 40)) aNil)
def ztB:Ab.Spec ty:=zm zxx fun x=>((zj6 x.1 x.2.1).1,zuZ (zj6 x.1 x.2.1).2)
theorem zA4:Sound Tryz.prog base 68 ztB:=
 zu (cx':=zDg) zH zn zD (zx ⟨zhI,zBJ,zks,trivial⟩) Tryz.call68 Tryz.func68 (c:=body Tryz.f68) (by kernel_rfl) (zh (l:=[]) (by kernel_rfl) trivial) (sg:=⟨[.pure],[]⟩) (A:=zxx) (res:=zuZ) (W:=fun x=>zrX x.1 x.2.1) (z:=default)
def zES:Cx ty:=mkCx base 2 [] [] [] [] [] []
def zAi:Wy0 (List ByteArray):=.k [ByteArray.mk #[(73:UInt8),(78:UInt8),(84:UInt8),(69:UInt8),(71:UInt8),(69:UInt8),(82:UInt8)],ByteArray.mk #[(84:UInt8),(69:UInt8),(88:UInt8),(84:UInt8)],ByteArray.mk #[(66:UInt8),(79:UInt8),(79:UInt8),(76:UInt8),(69:UInt8),(65:UInt8),(78:UInt8)]]
def zti:Bool×List ByteArray:=(zAi).fin default
def zxO (r:List ByteArray):ARes ty:=⟨[.own 9 r],[]⟩
def zAx:AL base (Unit):=aNil
def zwI:Ab.Spec ty:=zm zAx fun x=>((zti ).1,zxO (zti ).2)
theorem zCw:Sound Tryz.prog base 134 zwI:=
 zu (cx':=zES) zH zn zD (zx trivial) Tryz.call134 Tryz.func134 (c:=body Tryz.f134) (by kernel_rfl) (zh (l:=[]) (by kernel_rfl) trivial) (sg:=⟨[.own 9],[]⟩) (A:=zAx) (res:=zxO) (W:=fun x=>zAi ) (z:=default)
def zCz:Cx ty:=mkCx base 13 [(134,zwI)] [] [] [] [] []
def zlW (kind:Int):Wy0 (ByteArray):=.i (decide (kind<0)) (.k (ByteArray.mk #[])) (.i (decide (kind>2)) (.k (ByteArray.mk #[])) (.i (decide (0≤kind)&&decide (kind<Int.ofNat zti.2.length)) (.k (zti.2.getD kind.toNat default)) .d))
def zk6 (kind:Int):Bool×ByteArray:=(zlW kind).fin default
def zub (r:ByteArray):ARes ty:=⟨[.pure (.lit (.string r))],[]⟩
def zvE:AL base (Int×Unit):=zf (zg (vInt .i64)) aNil
def zsx:Ab.Spec ty:=zm zvE fun x=>((zk6 x.1).1,zub (zk6 x.1).2)
theorem zzC:Sound Tryz.prog base 103 zsx:=
 zu (cx':=zCz) zH zn zD (zx ⟨zCw,trivial⟩) Tryz.call103 Tryz.func103 (c:=body Tryz.f103) (by kernel_rfl) (zh (l:=[]) (by kernel_rfl) trivial) (sg:=⟨[.pure],[]⟩) (A:=zvE) (res:=zub) (W:=fun x=>zlW x.1) (z:=default)
def ztQ:Cx ty:=mkCx base 7 [(103,zsx)] [] [] [] [] []
def zgG (c:Column):Wy0 (Bool):=.bn (zk6 c.Type_) fun r0=>.k (r0.toList==(ByteArray.mk #[]).toList)
def zbe (c:Column):Bool×Bool:=(zgG c).fin default
def zk5 (r:Bool):ARes ty:=⟨[.pure (.lit (.bool r))],[]⟩
def zmy:AL base (Column×Unit):=zf (zg (vAgg 67)) aNil
def zfa:Ab.Spec ty:=zm zmy fun x=>((zbe x.1).1,zk5 (zbe x.1).2)
theorem zha:Sound Tryz.prog base 102 zfa:=
 zu (cx':=ztQ) zH zn zD (zx ⟨zzC,trivial⟩) Tryz.call102 Tryz.func102 (c:=body Tryz.f102) (by kernel_rfl) (zh (l:=[]) (by kernel_rfl) trivial) (sg:=⟨[.pure],[]⟩) (A:=zmy) (res:=zk5) (W:=fun x=>zgG x.1) (z:=default)
abbrev ttTslicesIndexFuncLapiColumnapiColumnvc0:=List Column×Unit×Int×Int×Unit
def zkg (s:List Column) (t7:Int) (t8:Int):Wy ttTslicesIndexFuncLapiColumnapiColumnvc0 (Unit) (Int⊕Unit):=.i (decide (t8<t7)) (.i (decide (0≤t8)&&decide (t8<Int.ofNat s.length)) (.bn (zbe (s.getD t8.toNat default)) fun r0=>.i (r0) (.k (.inl t8)) (.h (s,(),t7,(IntKind.i64.wrap (t8+1)),()) ())) .d) (.k (.inr ()))
def zdd (x:ttTslicesIndexFuncLapiColumnapiColumnvc0) (y:Unit):Wy ttTslicesIndexFuncLapiColumnapiColumnvc0 (Unit) (Int⊕Unit):=zkg x.1 x.2.2.1 x.2.2.2.1
def zj9 (n:Nat) (s:List Column) (t7:Int) (t8:Int):Bool×(Int⊕Unit):=zN (zdd) (.inl default) n (s,(),t7,t8,()) ()
def zf1 (r:Int⊕Unit):LTree ty:=.ite (isL r) (.done .ret [.lit (.int .i64 (getL r))] []) (.done (.exit 0) [] [])
def zgb:LL ty ttTslicesIndexFuncLapiColumnapiColumnvc0:=za (lSl 67) (za (lFn 102 (zG)) (za (lInt .i64) (za (lInt .i64) zG)))
def zgl:BL ty (Unit):=bNil
def zfV (x:ttTslicesIndexFuncLapiColumnapiColumnvc0) (y:Unit):Nat:=(x.1.length+Int.toNat x.2.2.1+Int.toNat x.2.2.2.1+1000)
def zgk:Cx ty:=mkCx base 19 [(102,zfa)] [] [(2,[(0,.keep),(1,.keep),(7,.keep),(8,.keep)])] [(2,1,[]),(2,0,[(4,.keep)])] [(2,spW zgb zgl (zdd) (.inl default) zf1 zfV)] []
theorem zjY:zS zgk (lp (body Tryz.f133) 0):=zL (id:=2) (V:=zgb) (B:=zgl) (W:=zdd) (z:=.inl default) (tr:=zf1) (m:=zfV)
def zgp (s:List Column):Wy0 (Int):=.bn (zj9 (s.length+(Int.ofNat s.length).toNat +Int.toNat 0+1000) s (Int.ofNat s.length) 0) fun r2=>.i (isL r2) (.k (getL r2)) (.k (-1:Int))
def zco (s:List Column):Bool×Int:=(zgp s).fin default
def zfQ (r:Int):ARes ty:=⟨[.pure (.lit (.int .i64 r))],[]⟩
def zgy:AL base (List Column×Unit×Unit):=zf (zg (vSl 67)) (zf (zg (vFn 102 vNil)) aNil)
def zfy:Ab.Spec ty:=zm zgy fun x=>((zco x.1).1,zfQ (zco x.1).2)
theorem zjD:Sound Tryz.prog base 133 zfy:=
 zu (cx':=zgk) zH zn zD (zx ⟨zha,trivial⟩) Tryz.call133 Tryz.func133 (c:=body Tryz.f133) (by kernel_rfl) (zh (l:=[lp (body Tryz.f133) 0]) (by kernel_rfl) ⟨zjY,trivial⟩) (sg:=⟨[.pure],[]⟩) (A:=zgy) (res:=zfQ) (W:=fun x=>zgp x.1) (z:=default)
def zjB:Cx ty:=mkCx base 9 [(102,zfa),(133,zfy)] [] [] [] [] []
def zcV (s:List Column):Wy0 (Bool):=.bn (zco s) fun r0=>.k (decide (r0≥0))
def zbu (s:List Column):Bool×Bool:=(zcV s).fin default
def ze6 (r:Bool):ARes ty:=⟨[.pure (.lit (.bool r))],[]⟩
def zfw:AL base (List Column×Unit×Unit):=zf (zg (vSl 67)) (zf (zg (vFn 102 vNil)) aNil)
def zeM:Ab.Spec ty:=zm zfw fun x=>((zbu x.1).1,ze6 (zbu x.1).2)
theorem ziQ:Sound Tryz.prog base 101 zeM:=
 zu (cx':=zjB) zH zn zD (zx ⟨zha,zjD,trivial⟩) Tryz.call101 Tryz.func101 (c:=body Tryz.f101) (by kernel_rfl) (zh (l:=[]) (by kernel_rfl) trivial) (sg:=⟨[.pure],[]⟩) (A:=zfw) (res:=ze6) (W:=fun x=>zcV x.1) (z:=default)
def zwz:Cx ty:=mkCx base 11 [(101,zeM),(102,zfa)] [] [] [] [] []
def zj3 (l:List Column):Wy0 (Bool):=.i (decide (Int.ofNat l.length≤16)) (.bn (zbu l) fun r0=>.k (!r0)) (.k false)
def zgT (l:List Column):Bool×Bool:=(zj3 l).fin default
def zm9 (r:Bool):ARes ty:=⟨[.pure (.lit (.bool r))],[]⟩
def zoL:AL base (List Column×Unit):=zf (zg (vSl 67)) aNil
def zms:Ab.Spec ty:=zm zoL fun x=>((zgT x.1).1,zm9 (zgT x.1).2)
theorem ztz:Sound Tryz.prog base 67 zms:=
 zu (cx':=zwz) zH zn zD (zx ⟨ziQ,zha,trivial⟩) Tryz.call67 Tryz.func67 (c:=body Tryz.f67) (by kernel_rfl) (zh (l:=[]) (by kernel_rfl) trivial) (sg:=⟨[.pure],[]⟩) (A:=zoL) (res:=zm9) (W:=fun x=>zj3 x.1) (z:=default)
def zcQ:Cx ty:={ base with nt:=8 }
def zcm (s:List Column):Bool×List Column:=(decide (s.length*24≤reach),s)
def zhh:Ab.Spec ty:=zm (cx:=base) (zf (zg (vSl 67)) aNil) fun x=>((zcm x.1).1,⟨[.own 67 (zcm x.1).2],[]⟩)
theorem zmq:zgE zcQ Tryz.f75 (body Tryz.f75) ⟨[.own 67],[]⟩ [.pure (.lit (.slice none 0 0))]=some ⟨[.own 67 []],[]⟩:=by kernel_rfl
theorem zlq (p:Addr) (c:Nat):zgE zcQ Tryz.f75 (body Tryz.f75) ⟨[.own 67],[]⟩ [.pure (.lit (.slice (some p) 0 c))]=some ⟨[.own 67 []],[]⟩:=by kernel_rfl
theorem zma (l:List Column):zgE zcQ Tryz.f75 (body Tryz.f75) ⟨[.own 67],[]⟩ [.pure (.sl 67 l)]=bif !l.isEmpty then bif decide ((([]:List (ty 67)).length+l.length)*24≤reach) then some ⟨[.own 67 l],[]⟩ else none else none:=by kernel_rfl
theorem zlr:Sound Tryz.prog base 75 zhh:=
 zyn (cx':=zcQ) (bytes:=24) zH zn ⟨⟨rfl,rfl,rfl,rfl,rfl,rfl⟩,rfl⟩ (fun g s h=>by cases h) Tryz.call75 Tryz.func75 (c:=body Tryz.f75) (by kernel_rfl) (zh (l:=[]) (by kernel_rfl) trivial) zmq zlq zma (by kernel_rfl)
def zd8:Cx ty:={ base with nt:=8 }
def zbT (s:List Row):Bool×List Row:=(decide (s.length*48≤reach),s)
def zi1:Ab.Spec ty:=zm (cx:=base) (zf (zg (vSl 38)) aNil) fun x=>((zbT x.1).1,⟨[.own 38 (zbT x.1).2],[]⟩)
theorem zpU:zgE zd8 Tryz.f71 (body Tryz.f71) ⟨[.own 38],[]⟩ [.pure (.lit (.slice none 0 0))]=some ⟨[.own 38 []],[]⟩:=by kernel_rfl
theorem zoz (p:Addr) (c:Nat):zgE zd8 Tryz.f71 (body Tryz.f71) ⟨[.own 38],[]⟩ [.pure (.lit (.slice (some p) 0 c))]=some ⟨[.own 38 []],[]⟩:=by kernel_rfl
theorem zpd (l:List Row):zgE zd8 Tryz.f71 (body Tryz.f71) ⟨[.own 38],[]⟩ [.pure (.sl 38 l)]=bif !l.isEmpty then bif decide ((([]:List (ty 38)).length+l.length)*48≤reach) then some ⟨[.own 38 l],[]⟩ else none else none:=by kernel_rfl
theorem zoA:Sound Tryz.prog base 71 zi1:=
 zyn (cx':=zd8) (bytes:=48) zH zn ⟨⟨rfl,rfl,rfl,rfl,rfl,rfl⟩,rfl⟩ (fun g s h=>by cases h) Tryz.call71 Tryz.func71 (c:=body Tryz.f71) (by kernel_rfl) (zh (l:=[]) (by kernel_rfl) trivial) zpU zoz zpd (by kernel_rfl)
end Go.Proofs.YtddkaehkimnklaaGreatDoor
end
