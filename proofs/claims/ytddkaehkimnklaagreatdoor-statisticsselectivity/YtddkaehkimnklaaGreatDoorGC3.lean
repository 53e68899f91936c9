/- Texts of this claim, joined (the program, its functions in plain words, and what they compute). -/
import Derived.Test.YtddkaehkimnklaaGreatDoorGC1
import Derived.Test.YtddkaehkimnklaaGreatDoorGA3
import Derived.Test.YtddkaehkimnklaaGreatDoorGC2
set_option autoImplicit false
set_option linter.unusedVariables false
set_option linter.unusedSectionVars false
set_option linter.unusedSimpArgs false
set_option maxRecDepth 1000000
set_option maxHeartbeats 0
noncomputable section
namespace Go.Proofs.YtddkaehkimnklaaGreatDoor
open Go Go.Ab
abbrev ttTannotationValid0:=List Term×Unit×List Term×Int×Int×List Factor×Int×Int×Unit
abbrev ttTannotationValid1:=Bool⊕(List Term×List Term×Int×Int)
abbrev ttTannotationValid2:=List Term×List Term×Int×Int×Unit
def zyA (zq:Atom→Bool×Bool) (a:List Term) (t10:List Term) (t11:Int) (t12:Int) (t40:List Factor) (t41:Int) (t42:Int) (t:Term):Wy ttTannotationValid0 (Term×Unit) ttTannotationValid1:=.i (decide (t42<t41)) (.i (decide (0≤t42)&&decide (t42<Int.ofNat t40.length)) (.i (decide ((t40.getD t42.toNat default).Exp<1)) (.k (.inl false)) (.bn (ziD (Atom.mk (t40.getD t42.toNat default).Atom.Kind (t40.getD t42.toNat default).Atom.Row (t40.getD t42.toNat default).Atom.Args (t40.getD t42.toNat default).Atom.Func (t40.getD t42.toNat default).Atom.Items (t40.getD t42.toNat default).Atom.Op (t40.getD t42.toNat default).Atom.Bound)) fun r6=>.i (r6) (.i ((t40.getD t42.toNat default).Exp != 1) (.k (.inl false)) (.i (decide (t42>0)) (.i (decide (0≤IntKind.i64.wrap (t42 - 1))&&decide (IntKind.i64.wrap (t42 - 1)<Int.ofNat t.Factors.length)) (.bn (zkc (Atom.mk (t.Factors.getD (IntKind.i64.wrap (t42 - 1)).toNat default).Atom.Kind (t.Factors.getD (IntKind.i64.wrap (t42 - 1)).toNat default).Atom.Row (t.Factors.getD (IntKind.i64.wrap (t42 - 1)).toNat default).Atom.Args (t.Factors.getD (IntKind.i64.wrap (t42 - 1)).toNat default).Atom.Func (t.Factors.getD (IntKind.i64.wrap (t42 - 1)).toNat default).Atom.Items (t.Factors.getD (IntKind.i64.wrap (t42 - 1)).toNat default).Atom.Op (t.Factors.getD (IntKind.i64.wrap (t42 - 1)).toNat default).Atom.Bound) (Atom.mk (t40.getD t42.toNat default).Atom.Kind (t40.getD t42.toNat default).Atom.Row (t40.getD t42.toNat default).Atom.Args (t40.getD t42.toNat default).Atom.Func (t40.getD t42.toNat default).Atom.Items (t40.getD t42.toNat default).Atom.Op (t40.getD t42.toNat default).Atom.Bound)) fun r1=>.i (decide (r1≥0)) (.k (.inl false)) (.bn (zq (Atom.mk (t40.getD t42.toNat default).Atom.Kind (t40.getD t42.toNat default).Atom.Row (t40.getD t42.toNat default).Atom.Args (t40.getD t42.toNat default).Atom.Func (t40.getD t42.toNat default).Atom.Items (t40.getD t42.toNat default).Atom.Op (t40.getD t42.toNat default).Atom.Bound)) fun r0=>.i (!r0) (.k (.inl false)) (.h (a,(),t10,t11,t12,t40,t41,(IntKind.i64.wrap (t42+1)),()) (t,())))) .d) (.bn (zq (Atom.mk (t40.getD t42.toNat default).Atom.Kind (t40.getD t42.toNat default).Atom.Row (t40.getD t42.toNat default).Atom.Args (t40.getD t42.toNat default).Atom.Func (t40.getD t42.toNat default).Atom.Items (t40.getD t42.toNat default).Atom.Op (t40.getD t42.toNat default).Atom.Bound)) fun r2=>.i (!r2) (.k (.inl false)) (.h (a,(),t10,t11,t12,t40,t41,(IntKind.i64.wrap (t42+1)),()) (t,()))))) (.i (decide (t42>0)) (.i (decide (0≤IntKind.i64.wrap (t42 - 1))&&decide (IntKind.i64.wrap (t42 - 1)<Int.ofNat t.Factors.length)) (.bn (zkc (Atom.mk (t.Factors.getD (IntKind.i64.wrap (t42 - 1)).toNat default).Atom.Kind (t.Factors.getD (IntKind.i64.wrap (t42 - 1)).toNat default).Atom.Row (t.Factors.getD (IntKind.i64.wrap (t42 - 1)).toNat default).Atom.Args (t.Factors.getD (IntKind.i64.wrap (t42 - 1)).toNat default).Atom.Func (t.Factors.getD (IntKind.i64.wrap (t42 - 1)).toNat default).Atom.Items (t.Factors.getD (IntKind.i64.wrap (t42 - 1)).toNat default).Atom.Op (t.Factors.getD (IntKind.i64.wrap (t42 - 1)).toNat default).Atom.Bound) (Atom.mk (t40.getD t42.toNat default).Atom.Kind (t40.getD t42.toNat default).Atom.Row (t40.getD t42.toNat default).Atom.Args (t40.getD t42.toNat default).Atom.Func (t40.getD t42.toNat default).Atom.Items (t40.getD t42.toNat default).Atom.Op (t40.getD t42.toNat default).Atom.Bound)) fun r4=>.i (decide (r4≥0)) (.k (.inl false)) (.bn (zq (Atom.mk (t40.getD t42.toNat default).Atom.Kind (t40.getD t42.toNat default).Atom.Row (t40.getD t42.toNat default).Atom.Args (t40.getD t42.toNat default).Atom.Func (t40.getD t42.toNat default).Atom.Items (t40.getD t42.toNat default).Atom.Op (t40.getD t42.toNat default).Atom.Bound)) fun r3=>.i (!r3) (.k (.inl false)) (.h (a,(),t10,t11,t12,t40,t41,(IntKind.i64.wrap (t42+1)),()) (t,())))) .d) (.bn (zq (Atom.mk (t40.getD t42.toNat default).Atom.Kind (t40.getD t42.toNat default).Atom.Row (t40.getD t42.toNat default).Atom.Args (t40.getD t42.toNat default).Atom.Func (t40.getD t42.toNat default).Atom.Items (t40.getD t42.toNat default).Atom.Op (t40.getD t42.toNat default).Atom.Bound)) fun r5=>.i (!r5) (.k (.inl false)) (.h (a,(),t10,t11,t12,t40,t41,(IntKind.i64.wrap (t42+1)),()) (t,())))))) .d) (.k (.inr (a,t10,t11,t12)))
def zlf (zq:Atom→Bool×Bool) (x:ttTannotationValid0) (y:Term×Unit):Wy ttTannotationValid0 (Term×Unit) ttTannotationValid1:=zyA zq x.1 x.2.2.1 x.2.2.2.1 x.2.2.2.2.1 x.2.2.2.2.2.1 x.2.2.2.2.2.2.1 x.2.2.2.2.2.2.2.1 y.1
def zqy (zq:Atom→Bool×Bool) (n:Nat) (a:List Term) (t10:List Term) (t11:Int) (t12:Int) (t40:List Factor) (t41:Int) (t42:Int) (t:Term):Bool×ttTannotationValid1:=zN (zlf zq) (.inl default) n (a,(),t10,t11,t12,t40,t41,t42,()) (t,())
def zpf (r:ttTannotationValid1):LTree ty:=.ite (isL r) (.done .ret [.lit (.bool (getL r))] []) (.done (.exit 2) [.sl 152 (getR r).1,.sl 152 (getR r).2.1,.lit (.int .i64 (getR r).2.2.1),.lit (.int .i64 (getR r).2.2.2)] [])
def zq0:LL ty ttTannotationValid0:=za (lSl 152) (za (z6 340 0) (za (lSl 152) (za (lInt .i64) (za (lInt .i64) (za (lSl 160) (za (lInt .i64) (za (lInt .i64) zy)))))))
def zqb:BL ty (Term×Unit):=bBox (zbj (fun x=>(⟨x.1,x.2.1⟩:Term)) (fun x=>(x.Coeff,x.Factors,())) (fun _=>rfl) (za (lInt .i64) (za (lSl 160) zy))) false (bNil)
def zyk (zq:Atom→Bool×Bool) (a:List Term) (t10:List Term) (t11:Int) (t12:Int):Wy ttTannotationValid2 (Unit) (Bool⊕Unit):=.i (decide (t12<t11)) (.i (decide (0≤t12)&&decide (t12<Int.ofNat t10.length)) (.i (decide ((t10.getD t12.toNat default).Coeff<1)) (.k (.inl false)) (.i (decide ((t10.getD t12.toNat default).Coeff>1152921504606846976)) (.k (.inl false)) (.i (decide (t12>0)) (.i (decide (0≤IntKind.i64.wrap (t12 - 1))&&decide (IntKind.i64.wrap (t12 - 1)<Int.ofNat a.length)) (.bn (zoF (a.getD (IntKind.i64.wrap (t12 - 1)).toNat default) (t10.getD t12.toNat default)) fun r15=>.i (decide (r15≥0)) (.k (.inl false)) (.bn (zqy zq (a.length+t10.length+t11.toNat +t12.toNat +(t10.getD t12.toNat default).Factors.length+(Int.ofNat (t10.getD t12.toNat default).Factors.length).toNat +Int.toNat 0+(t10.getD t12.toNat default).Factors.length+1000) a t10 t11 t12 (t10.getD t12.toNat default).Factors (Int.ofNat (t10.getD t12.toNat default).Factors.length) 0 (t10.getD t12.toNat default)) fun r14=>.i (isL r14) (.k (.inl (getL r14))) (.h ((getR r14).1,(getR r14).2.1,(getR r14).2.2.1,(IntKind.i64.wrap ((getR r14).2.2.2+1)),()) ()))) .d) (.bn (zqy zq (a.length+t10.length+t11.toNat +t12.toNat +(t10.getD t12.toNat default).Factors.length+(Int.ofNat (t10.getD t12.toNat default).Factors.length).toNat +Int.toNat 0+(t10.getD t12.toNat default).Factors.length+1000) a t10 t11 t12 (t10.getD t12.toNat default).Factors (Int.ofNat (t10.getD t12.toNat default).Factors.length) 0 (t10.getD t12.toNat default)) fun r16=>.i (isL r16) (.k (.inl (getL r16))) (.h ((getR r16).1,(getR r16).2.1,(getR r16).2.2.1,(IntKind.i64.wrap ((getR r16).2.2.2+1)),()) ()))))) .d) (.k (.inr ()))
def zlx (zq:Atom→Bool×Bool) (x:ttTannotationValid2) (y:Unit):Wy ttTannotationValid2 (Unit) (Bool⊕Unit):=zyk zq x.1 x.2.1 x.2.2.1 x.2.2.2.1
def zyf (zq:Atom→Bool×Bool) (n:Nat) (a:List Term) (t10:List Term) (t11:Int) (t12:Int):Bool×(Bool⊕Unit):=zN (zlx zq) (.inl default) n (a,t10,t11,t12,()) ()
def zpD (r:Bool⊕Unit):LTree ty:=.ite (isL r) (.done .ret [.lit (.bool (getL r))] []) (.done (.exit 0) [] [])
def zqL:LL ty ttTannotationValid2:=za (lSl 152) (za (lSl 152) (za (lInt .i64) (za (lInt .i64) zy)))
def zqB:BL ty (Unit):=bNil
def zpn (x:ttTannotationValid0) (y:Term×Unit):Nat:=(x.1.length+x.2.2.1.length+Int.toNat x.2.2.2.1+Int.toNat x.2.2.2.2.1+x.2.2.2.2.2.1.length+Int.toNat x.2.2.2.2.2.2.1+Int.toNat x.2.2.2.2.2.2.2.1+y.1.Factors.length+1000)
def zpq (x:ttTannotationValid2) (y:Unit):Nat:=(x.1.length+x.2.1.length+Int.toNat x.2.2.1+Int.toNat x.2.2.2.1+1000)
def zlc (zq:Atom→Bool×Bool):Cx ty:=mkCx base 85 [(107,zo5),(108,annotation_compareLists_spec),(109,ziT),(110,annotation_compareAtoms_spec),(111,(zid zq))] [] [(4,[(0,.keep),(10,.keep),(11,.keep),(12,.keep)]),(9,[(0,.keep),(4,.keep),(10,.keep),(11,.keep),(12,.keep),(40,.keep),(41,.keep),(42,.keep)])] [(4,1,[]),(4,0,[(2,.keep)]),(9,3,[(0,.keep),(10,.keep),(11,.keep),(12,.keep)]),(9,0,[(2,.keep)])] [(9,spW zq0 zqb (zlf zq) (.inl default) zpf zpn),(4,spW zqL zqB (zlx zq) (.inl default) zpD zpq)] []
theorem zxJ (zq:Atom→Bool×Bool):zZ (zlc zq) (lp (body Tryz.f69) 1):=zP (id:=9) (V:=zq0) (B:=zqb) (W:=zlf zq) (z:=.inl default) (tr:=zpf) (m:=zpn)
theorem zxD (zq:Atom→Bool×Bool):zZ (zlc zq) (lp (body Tryz.f69) 0):=zP (id:=4) (V:=zqL) (B:=zqB) (W:=zlx zq) (z:=.inl default) (tr:=zpD) (m:=zpq)
def zrU (zq:Atom→Bool×Bool) (a:List Term):Wy0 (Bool):=.bn (zoN a) fun r21=>.i (!r21) (.k false) (.bn (zyf zq (a.length+a.length+(Int.ofNat a.length).toNat +Int.toNat 0+1000) a a (Int.ofNat a.length) 0) fun r20=>.i (isL r20) (.k (getL r20)) (.k true))
def ztE (zq:Atom→Bool×Bool) (a:List Term):Bool×Bool:=(zrU zq a).fin default
theorem zwa (zq:Atom→Bool×Bool) (zvG:Sound Tryz.prog base 111 (zid zq)):Sound Tryz.prog base 69 (zfq (ztE zq)):=
 zt (cx':=(zlc zq)) zG zn zD (zw ⟨zwE,zst,zlH,zsu,zvG,trivial⟩) Tryz.call69 Tryz.func69 (c:=body Tryz.f69) (by kernel_rfl) (zi (l:=[lp (body Tryz.f69) 0,lp (body Tryz.f69) 1]) (by kernel_rfl) ⟨zxD zq,zxJ zq,trivial⟩) (sg:=⟨[.pure],[]⟩) (A:=ztY) (res:=zre) (W:=fun x=>zrU zq x.1) (z:=default)
def zA0:Cx ty:=mkCx base 9 [(145,annotation_Compare_spec)] [] [] [] [] []
def zt7 (a:List Term) (b:List Term):Wy0 (Bool):=.bn (ztX a b) fun r0=>.k (r0==0)
def zpW (a:List Term) (b:List Term):Bool×Bool:=(zt7 a b).fin default
def zrF (r:Bool):ARes ty:=⟨[.pure (.lit (.bool r))],[]⟩
def zt8:AL base (List Term×List Term×Unit):=zg (zh (vSl 152)) (zg (zh (vSl 152)) aNil)
def zp6:Ab.Spec ty:=zl zt8 fun x=>((zpW x.1 x.2.1).1,zrF (zpW x.1 x.2.1).2)
theorem zxO:Sound Tryz.prog base 151 zp6:=
 zt (cx':=zA0) zG zn zD (zw ⟨zvV,trivial⟩) Tryz.call151 Tryz.func151 (c:=body Tryz.f151) (by kernel_rfl) (zi (l:=[]) (by kernel_rfl) trivial) (sg:=⟨[.pure],[]⟩) (A:=zt8) (res:=zrF) (W:=fun x=>zt7 x.1 x.2.1) (z:=default)
def zvN:Cx ty:=mkCx base 27 [(83,zgV)] [] [] [] [] []
def zou (w:Weighted) (p1:Value) (p2:Int):Wy0 (Bool):=.bn (zgt w.Value) fun r0=>.i (!r0) (.k true) (.i (w.Value.Kind != p1.Kind) (.k true) (.i (p2==0) (.k (w.Value.Int != 1)) (.k false)))
def zlh (w:Weighted) (p1:Value) (p2:Int):Bool×Bool:=(zou w p1 p2).fin default
def znv (r:Bool):ARes ty:=⟨[.pure (.lit (.bool r))],[]⟩
def zoE:AL base (Weighted×Value×(Int×Unit)×Unit):=zg (zh (vAgg 182)) (zg (zh (zvo 40)) (zg (zh (vBox (zr7 (vInt .i64) vNil))) aNil))
def zgK:Ab.Spec ty:=zl zoE fun x=>((zlh x.1 x.2.1 x.2.2.1.1).1,znv (zlh x.1 x.2.1 x.2.2.1.1).2)
theorem zir:Sound Tryz.prog base 202 zgK:=
 zt (cx':=zvN) zG zn zD (zw ⟨zhu,trivial⟩) Tryz.call202 Tryz.func202 (c:=body Tryz.f202) (by kernel_rfl) (zi (l:=[]) (by kernel_rfl) trivial) (sg:=⟨[.pure],[]⟩) (A:=zoE) (res:=znv) (W:=fun x=>zou x.1 x.2.1 x.2.2.1.1) (z:=default)
abbrev ttTslicesIndexFuncLapiWeightedapiWeightedfi0:=List Weighted×(Value×(Int×Unit)×Unit)×Int×Int×Unit
def zjH (s:List Weighted) (f_0:Value) (f_1:Int) (t7:Int) (t8:Int):Wy ttTslicesIndexFuncLapiWeightedapiWeightedfi0 (Unit) (Int⊕Unit):=.i (decide (t8<t7)) (.i (decide (0≤t8)&&decide (t8<Int.ofNat s.length)) (.bn (zlh (s.getD t8.toNat default) f_0 f_1) fun r0=>.i (r0) (.k (.inl t8)) (.h (s,(f_0,(f_1,()),()),t7,(IntKind.i64.wrap (t8+1)),()) ())) .d) (.k (.inr ()))
def zcG (x:ttTslicesIndexFuncLapiWeightedapiWeightedfi0) (y:Unit):Wy ttTslicesIndexFuncLapiWeightedapiWeightedfi0 (Unit) (Int⊕Unit):=zjH x.1 x.2.1.1 x.2.1.2.1.1 x.2.2.1 x.2.2.2.1
def zjE (n:Nat) (s:List Weighted) (f_0:Value) (f_1:Int) (t7:Int) (t8:Int):Bool×(Int⊕Unit):=zN (zcG) (.inl default) n (s,(f_0,(f_1,()),()),t7,t8,()) ()
def zeO (r:Int⊕Unit):LTree ty:=.ite (isL r) (.done .ret [.lit (.int .i64 (getL r))] []) (.done (.exit 0) [] [])
def ze2:LL ty ttTslicesIndexFuncLapiWeightedapiWeightedfi0:=za (lSl 182) (za (lFn 202 (za (zD6 (zbj (fun x=>(⟨x.1,x.2.1,x.2.2.1⟩:Value)) (fun x=>(x.Kind,x.Int,x.Text,())) (fun _=>rfl) (za (lInt .i64) (za (lInt .i64) (za lStr zy)))) 0) (za (zD6 (za (lInt .i64) zy) 0) zy))) (za (lInt .i64) (za (lInt .i64) zy)))
def ze8:BL ty (Unit):=bNil
def zeR (x:ttTslicesIndexFuncLapiWeightedapiWeightedfi0) (y:Unit):Nat:=(x.1.length+Int.toNat x.2.1.2.1.1+Int.toNat x.2.2.1+Int.toNat x.2.2.2.1+1000)
def ze4:Cx ty:=mkCx base 19 [(202,zgK)] [] [(2,[(0,.keep),(1,.keep),(7,.keep),(8,.keep)])] [(2,1,[]),(2,0,[(4,.keep)])] [(2,spW ze2 ze8 (zcG) (.inl default) zeO zeR)] []
theorem zi8:zZ ze4 (lp (body Tryz.f201) 0):=zP (id:=2) (V:=ze2) (B:=ze8) (W:=zcG) (z:=.inl default) (tr:=zeO) (m:=zeR)
def zft (s:List Weighted) (f_0:Value) (f_1:Int):Wy0 (Int):=.bn (zjE (s.length+f_1.toNat +(Int.ofNat s.length).toNat +Int.toNat 0+1000) s f_0 f_1 (Int.ofNat s.length) 0) fun r2=>.i (isL r2) (.k (getL r2)) (.k (-1:Int))
def zcY (s:List Weighted) (f_0:Value) (f_1:Int):Bool×Int:=(zft s f_0 f_1).fin default
def zeW (r:Int):ARes ty:=⟨[.pure (.lit (.int .i64 r))],[]⟩
def zfp:AL base (List Weighted×(Value×(Int×Unit)×Unit)×Unit):=zg (zh (vSl 182)) (zg (zh (vFn 202 (zr7 (zvo 40) (zr7 (vBox (zr7 (vInt .i64) vNil)) vNil)))) aNil)
def zey:Ab.Spec ty:=zl zfp fun x=>((zcY x.1 x.2.1.1 x.2.1.2.1.1).1,zeW (zcY x.1 x.2.1.1 x.2.1.2.1.1).2)
theorem ziL:Sound Tryz.prog base 201 zey:=
 zt (cx':=ze4) zG zn zD (zw ⟨zir,trivial⟩) Tryz.call201 Tryz.func201 (c:=body Tryz.f201) (by kernel_rfl) (zi (l:=[lp (body Tryz.f201) 0]) (by kernel_rfl) ⟨zi8,trivial⟩) (sg:=⟨[.pure],[]⟩) (A:=zfp) (res:=zeW) (W:=fun x=>zft x.1 x.2.1.1 x.2.1.2.1.1) (z:=default)
def ziN:Cx ty:=mkCx base 9 [(201,zey),(202,zgK)] [] [] [] [] []
def zes (s:List Weighted) (f_0:Value) (f_1:Int):Wy0 (Bool):=.bn (zcY s f_0 f_1) fun r0=>.k (decide (r0≥0))
def zbg (s:List Weighted) (f_0:Value) (f_1:Int):Bool×Bool:=(zes s f_0 f_1).fin default
def zd9 (r:Bool):ARes ty:=⟨[.pure (.lit (.bool r))],[]⟩
def zeA:AL base (List Weighted×(Value×(Int×Unit)×Unit)×Unit):=zg (zh (vSl 182)) (zg (zh (vFn 202 (zr7 (zvo 40) (zr7 (vBox (zr7 (vInt .i64) vNil)) vNil)))) aNil)
def zdT:Ab.Spec ty:=zl zeA fun x=>((zbg x.1 x.2.1.1 x.2.1.2.1.1).1,zd9 (zbg x.1 x.2.1.1 x.2.1.2.1.1).2)
theorem zh9:Sound Tryz.prog base 155 zdT:=
 zt (cx':=ziN) zG zn zD (zw ⟨ziL,zir,trivial⟩) Tryz.call155 Tryz.func155 (c:=body Tryz.f155) (by kernel_rfl) (zi (l:=[]) (by kernel_rfl) trivial) (sg:=⟨[.pure],[]⟩) (A:=zeA) (res:=zd9) (W:=fun x=>zes x.1 x.2.1.1 x.2.1.2.1.1) (z:=default)
def zx6:Cx ty:=mkCx base 43 [(83,zgV),(155,zdT),(202,zgK)] [] [] [] [] []
def zsp (fn:Int) (items:List Weighted) (op:Int) (bound:Value):Wy0 (Bool):=.i (decide (fn<0)) (.k false) (.i (decide (fn>3)) (.k false) (.i (decide (op<5)) (.k false) (.i (decide (op>10)) (.k false) (.bn (zgt bound) fun r3=>.i (!r3) (.k false) (.i (fn==0) (.i (bound.Kind != 0) (.k false) (.bn (zbg items bound fn) fun r0=>.k (!r0))) (.i (fn==1) (.i (bound.Kind != 0) (.k false) (.bn (zbg items bound fn) fun r1=>.k (!r1))) (.bn (zbg items bound fn) fun r2=>.k (!r2))))))))
def znT (fn:Int) (items:List Weighted) (op:Int) (bound:Value):Bool×Bool:=(zsp fn items op bound).fin default
def zpb (r:Bool):ARes ty:=⟨[.pure (.lit (.bool r))],[]⟩
def zrX:AL base (Int×List Weighted×Int×Value×Unit):=zg (zh (vInt .i64)) (zg (zh (vSl 182)) (zg (zh (vInt .i64)) (zg (zh (vAgg 40)) aNil)))
def zox:Ab.Spec ty:=zl zrX fun x=>((znT x.1 x.2.1 x.2.2.1 x.2.2.2.1).1,zpb (znT x.1 x.2.1 x.2.2.1 x.2.2.2.1).2)
theorem zvx:Sound Tryz.prog base 158 zox:=
 zt (cx':=zx6) zG zn zD (zw ⟨zhu,zh9,zir,trivial⟩) Tryz.call158 Tryz.func158 (c:=body Tryz.f158) (by kernel_rfl) (zi (l:=[]) (by kernel_rfl) trivial) (sg:=⟨[.pure],[]⟩) (A:=zrX) (res:=zpb) (W:=fun x=>zsp x.1 x.2.1 x.2.2.1 x.2.2.2.1) (z:=default)
def ztd:Cx ty:=mkCx base 7 [] [] [] [] [] []
def zl7 (t:Term):Wy0 (Bool):=.k (Int.ofNat t.Factors.length==0)
def zjm (t:Term):Bool×Bool:=(zl7 t).fin default
def zkZ (r:Bool):ARes ty:=⟨[.pure (.lit (.bool r))],[]⟩
def zlZ:AL base (Term×Unit):=zg (zh (vAgg 152)) aNil
def zeM:Ab.Spec ty:=zl zlZ fun x=>((zjm x.1).1,zkZ (zjm x.1).2)
theorem zg7:Sound Tryz.prog base 200 zeM:=
 zt (cx':=ztd) zG zn zD (zw trivial) Tryz.call200 Tryz.func200 (c:=body Tryz.f200) (by kernel_rfl) (zi (l:=[]) (by kernel_rfl) trivial) (sg:=⟨[.pure],[]⟩) (A:=zlZ) (res:=zkZ) (W:=fun x=>zl7 x.1) (z:=default)
abbrev ttTslicesIndexFuncapiAnnotationapiTermhc0:=List Term×Unit×Int×Int×Unit
def zj6 (s:List Term) (t7:Int) (t8:Int):Wy ttTslicesIndexFuncapiAnnotationapiTermhc0 (Unit) (Int⊕Unit):=.i (decide (t8<t7)) (.i (decide (0≤t8)&&decide (t8<Int.ofNat s.length)) (.i ((zjm (s.getD t8.toNat default)).2) (.k (.inl t8)) (.h (s,(),t7,(IntKind.i64.wrap (t8+1)),()) ())) .d) (.k (.inr ()))
def zcZ (x:ttTslicesIndexFuncapiAnnotationapiTermhc0) (y:Unit):Wy ttTslicesIndexFuncapiAnnotationapiTermhc0 (Unit) (Int⊕Unit):=zj6 x.1 x.2.2.1 x.2.2.2.1
def zj7 (n:Nat) (s:List Term) (t7:Int) (t8:Int):Bool×(Int⊕Unit):=zN (zcZ) (.inl default) n (s,(),t7,t8,()) ()
def zfF (r:Int⊕Unit):LTree ty:=.ite (isL r) (.done .ret [.lit (.int .i64 (getL r))] []) (.done (.exit 0) [] [])
def zfV:LL ty ttTslicesIndexFuncapiAnnotationapiTermhc0:=za (lSl 152) (za (lFn 200 (zy)) (za (lInt .i64) (za (lInt .i64) zy)))
def zfR:BL ty (Unit):=bNil
def zfx (x:ttTslicesIndexFuncapiAnnotationapiTermhc0) (y:Unit):Nat:=(x.1.length+Int.toNat x.2.2.1+Int.toNat x.2.2.2.1+1000)
def zf1:Cx ty:=mkCx base 19 [(200,zeM)] [] [(2,[(0,.keep),(1,.keep),(7,.keep),(8,.keep)])] [(2,1,[]),(2,0,[(4,.keep)])] [(2,spW zfV zfR (zcZ) (.inl default) zfF zfx)] []
theorem zj2:zZ zf1 (lp (body Tryz.f195) 0):=zP (id:=2) (V:=zfV) (B:=zfR) (W:=zcZ) (z:=.inl default) (tr:=zfF) (m:=zfx)
def zgi (s:List Term):Wy0 (Int):=.bn (zj7 (s.length+(Int.ofNat s.length).toNat +Int.toNat 0+1000) s (Int.ofNat s.length) 0) fun r0=>.i (isL r0) (.k (getL r0)) (.k (-1:Int))
def zdi (s:List Term):Bool×Int:=(zgi s).fin default
def zfE (r:Int):ARes ty:=⟨[.pure (.lit (.int .i64 r))],[]⟩
def zgg:AL base (List Term×Unit×Unit):=zg (zh (vSl 152)) (zg (zh (vFn 200 vNil)) aNil)
def zfl:Ab.Spec ty:=zl zgg fun x=>((zdi x.1).1,zfE (zdi x.1).2)
theorem zjF:Sound Tryz.prog base 195 zfl:=
 zt (cx':=zf1) zG zn zD (zw ⟨zg7,trivial⟩) Tryz.call195 Tryz.func195 (c:=body Tryz.f195) (by kernel_rfl) (zi (l:=[lp (body Tryz.f195) 0]) (by kernel_rfl) ⟨zj2,trivial⟩) (sg:=⟨[.pure],[]⟩) (A:=zgg) (res:=zfE) (W:=fun x=>zgi x.1) (z:=default)
def zjz:Cx ty:=mkCx base 9 [(195,zfl),(200,zeM)] [] [] [] [] []
def zfg (s:List Term):Wy0 (Bool):=.bn (zdi s) fun r0=>.k (decide (r0≥0))
def zcW (s:List Term):Bool×Bool:=(zfg s).fin default
def zeT (r:Bool):ARes ty:=⟨[.pure (.lit (.bool r))],[]⟩
def zfo:AL base (List Term×Unit×Unit):=zg (zh (vSl 152)) (zg (zh (vFn 200 vNil)) aNil)
def zex:Ab.Spec ty:=zl zfo fun x=>((zcW x.1).1,zeT (zcW x.1).2)
theorem ziI:Sound Tryz.prog base 138 zex:=
 zt (cx':=zjz) zG zn zD (zw ⟨zjF,zg7,trivial⟩) Tryz.call138 Tryz.func138 (c:=body Tryz.f138) (by kernel_rfl) (zi (l:=[]) (by kernel_rfl) trivial) (sg:=⟨[.pure],[]⟩) (A:=zfo) (res:=zeT) (W:=fun x=>zfg x.1) (z:=default)
def zve:Cx ty:=mkCx base 5 [(138,zex),(200,zeM)] [] [] [] [] []
def zn0 (a:List Term):Wy0 (Bool):=.bn (zcW a) fun r0=>.k r0
def zkT (a:List Term):Bool×Bool:=(zn0 a).fin default
def zmO (r:Bool):ARes ty:=⟨[.pure (.lit (.bool r))],[]⟩
def znP:AL base (List Term×Unit):=zg (zh (vSl 152)) aNil
def zlO:Ab.Spec ty:=zl znP fun x=>((zkT x.1).1,zmO (zkT x.1).2)
theorem ztl:Sound Tryz.prog base 154 zlO:=
 zt (cx':=zve) zG zn zD (zw ⟨ziI,zg7,trivial⟩) Tryz.call154 Tryz.func154 (c:=body Tryz.f154) (by kernel_rfl) (zi (l:=[]) (by kernel_rfl) trivial) (sg:=⟨[.pure],[]⟩) (A:=znP) (res:=zmO) (W:=fun x=>zn0 x.1) (z:=default)
def zvT:Cx ty:=mkCx base 14 [] [] [] [] [] []
def zoJ (a:List Term):Wy0 (Bool):=.i (Int.ofNat a.length==1) (.i (decide ((0:Int)≤(0:Int))&&decide (0<Int.ofNat a.length)) (.k (Int.ofNat (a.getD (Int.toNat 0) default).Factors.length==0)) .d) (.k false)
def zlt (a:List Term):Bool×Bool:=(zoJ a).fin default
def znw (r:Bool):ARes ty:=⟨[.pure (.lit (.bool r))],[]⟩
def zor:AL base (List Term×Unit):=zg (zh (vSl 152)) aNil
def zmV:Ab.Spec ty:=zl zor fun x=>((zlt x.1).1,znw (zlt x.1).2)
theorem ztP:Sound Tryz.prog base 152 zmV:=
 zt (cx':=zvT) zG zn zD (zw trivial) Tryz.call152 Tryz.func152 (c:=body Tryz.f152) (by kernel_rfl) (zi (l:=[]) (by kernel_rfl) trivial) (sg:=⟨[.pure],[]⟩) (A:=zor) (res:=znw) (W:=fun x=>zoJ x.1) (z:=default)
def zzE:Cx ty:=mkCx base 42 [(109,ziT)] [] [] [] [] []
def zsL (a:List Term):Wy0 (Bool):=.i (Int.ofNat a.length != 1) (.k false) (.i (decide ((0:Int)≤(0:Int))&&decide (0<Int.ofNat a.length)) (.i ((a.getD (Int.toNat 0) default).Coeff != 1) (.k false) (.i (decide ((0:Int)≤(0:Int))&&decide (0<Int.ofNat a.length)) (.i (Int.ofNat (a.getD (Int.toNat 0) default).Factors.length != 1) (.k false) (.i (decide ((0:Int)≤(0:Int))&&decide (0<Int.ofNat a.length)) (.i (decide ((0:Int)≤(0:Int))&&decide (0<Int.ofNat (a.getD (Int.toNat 0) default).Factors.length)) (.i (((a.getD (Int.toNat 0) default).Factors.getD (Int.toNat 0) default).Exp==1) (.i (((a.getD (Int.toNat 0) default).Factors.getD (Int.toNat 0) default).Atom.Kind==2) (.k true) (.bn (ziD (Atom.mk ((a.getD (Int.toNat 0) default).Factors.getD (Int.toNat 0) default).Atom.Kind ((a.getD (Int.toNat 0) default).Factors.getD (Int.toNat 0) default).Atom.Row ((a.getD (Int.toNat 0) default).Factors.getD (Int.toNat 0) default).Atom.Args ((a.getD (Int.toNat 0) default).Factors.getD (Int.toNat 0) default).Atom.Func ((a.getD (Int.toNat 0) default).Factors.getD (Int.toNat 0) default).Atom.Items ((a.getD (Int.toNat 0) default).Factors.getD (Int.toNat 0) default).Atom.Op ((a.getD (Int.toNat 0) default).Factors.getD (Int.toNat 0) default).Atom.Bound)) fun r0=>.k r0)) (.k false)) .d) .d)) .d)) .d)
def zoU (a:List Term):Bool×Bool:=(zsL a).fin default
def zqw (r:Bool):ARes ty:=⟨[.pure (.lit (.bool r))],[]⟩
def zsI:AL base (List Term×Unit):=zg (zh (vSl 152)) aNil
def zpK:Ab.Spec ty:=zl zsI fun x=>((zoU x.1).1,zqw (zoU x.1).2)
theorem zwI:Sound Tryz.prog base 153 zpK:=
 zt (cx':=zzE) zG zn zD (zw ⟨zlH,trivial⟩) Tryz.call153 Tryz.func153 (c:=body Tryz.f153) (by kernel_rfl) (zi (l:=[]) (by kernel_rfl) trivial) (sg:=⟨[.pure],[]⟩) (A:=zsI) (res:=zqw) (W:=fun x=>zsL x.1) (z:=default)
def zDL:Cx ty:=mkCx base 11 [] [] [] [] [] []
def zya (id:RowID):Wy0 (Bool):=.i (decide (id.Table≥1)) (.k (decide (id.Seq≥1))) (.k false)
def zwr (id:RowID):Bool×Bool:=(zya id).fin default
def zvP (r:Bool):ARes ty:=⟨[.pure (.lit (.bool r))],[]⟩
def zyn:AL base (RowID×Unit):=zg (zh (vAgg 155)) aNil
def zuY:Ab.Spec ty:=zl zyn fun x=>((zwr x.1).1,zvP (zwr x.1).2)
theorem zBC:Sound Tryz.prog base 150 zuY:=
 zt (cx':=zDL) zG zn zD (zw trivial) Tryz.call150 Tryz.func150 (c:=body Tryz.f150) (by kernel_rfl) (zi (l:=[]) (by kernel_rfl) trivial) (sg:=⟨[.pure],[]⟩) (A:=zyn) (res:=zvP) (W:=fun x=>zya x.1) (z:=default)
abbrev ttTslicesIsSortedFuncLapiWeightedapiWeighted0:=List Weighted×Unit×Int×Unit
def zjD (x_:List Weighted) (i:Int):Wy ttTslicesIsSortedFuncLapiWeightedapiWeighted0 (Unit) (Bool⊕Unit):=.i (decide (i>0)) (.i (decide (0≤i)&&decide (i<Int.ofNat x_.length)) (.i (decide (0≤IntKind.i64.wrap (i - 1))&&decide (IntKind.i64.wrap (i - 1)<Int.ofNat x_.length)) (.bn (zop (x_.getD i.toNat default) (x_.getD (IntKind.i64.wrap (i - 1)).toNat default)) fun r0=>.i (decide (r0<0)) (.k (.inl false)) (.h (x_,(),(IntKind.i64.wrap (i - 1)),()) ())) .d) .d) (.k (.inr ()))
def zcF (x:ttTslicesIsSortedFuncLapiWeightedapiWeighted0) (y:Unit):Wy ttTslicesIsSortedFuncLapiWeightedapiWeighted0 (Unit) (Bool⊕Unit):=zjD x.1 x.2.2.1
def zjA (n:Nat) (x_:List Weighted) (i:Int):Bool×(Bool⊕Unit):=zN (zcF) (.inl default) n (x_,(),i,()) ()
def zeJ (r:Bool⊕Unit):LTree ty:=.ite (isL r) (.done .ret [.lit (.bool (getL r))] []) (.done (.exit 0) [] [])
def ze1:LL ty ttTslicesIsSortedFuncLapiWeightedapiWeighted0:=za (lSl 182) (za (lFn 147 (zy)) (za (lInt .i64) zy))
def ze3:BL ty (Unit):=bNil
def ze7:Cx ty:=mkCx base 25 [(147,annotation_compareItems_spec)] [] [(2,[(0,.keep),(1,.keep),(5,.keep)])] [(2,1,[]),(2,0,[(4,.keep)])] [(2,spW ze1 ze3 (zcF) (.inl default) zeJ fun x y=>(x.1.length+Int.toNat x.2.2.1+1000))] []
theorem zje:zZ ze7 (lp (body Tryz.f157) 0):=zP (id:=2) (V:=ze1) (B:=ze3) (W:=zcF) (z:=.inl default) (tr:=zeJ) (m:=fun x y=>(x.1.length+Int.toNat x.2.2.1+1000))
def zfm (x_:List Weighted):Wy0 (Bool):=.bn (zjA (x_.length+(IntKind.i64.wrap (Int.ofNat x_.length - 1)).toNat +1000) x_ (IntKind.i64.wrap (Int.ofNat x_.length - 1))) fun r2=>.i (isL r2) (.k (getL r2)) (.k true)
def zc0 (x_:List Weighted):Bool×Bool:=(zfm x_).fin default
def zeX (r:Bool):ARes ty:=⟨[.pure (.lit (.bool r))],[]⟩
def zff:AL base (List Weighted×Unit×Unit):=zg (zh (vSl 182)) (zg (zh (vFn 147 vNil)) aNil)
def zer:Ab.Spec ty:=zl zff fun x=>((zc0 x.1).1,zeX (zc0 x.1).2)
theorem ziF:Sound Tryz.prog base 157 zer:=
 zt (cx':=ze7) zG zn zD (zw ⟨zk3,trivial⟩) Tryz.call157 Tryz.func157 (c:=body Tryz.f157) (by kernel_rfl) (zi (l:=[lp (body Tryz.f157) 0]) (by kernel_rfl) ⟨zje,trivial⟩) (sg:=⟨[.pure],[]⟩) (A:=zff) (res:=zeX) (W:=fun x=>zfm x.1) (z:=default)
def zbK (zb:List (List Term)→Bool×Bool) (zf:List Term→Bool×Bool) (zc:List Weighted→Bool×Bool) (ze:Weighted→Bool×Bool):Cx ty:=mkCx base 149 [(147,annotation_compareItems_spec),(148,(zbr zb)),(149,(zb3 zf)),(150,zuY),(151,zp6),(152,zmV),(153,zpK),(154,zlO),(155,(zbC zc)),(156,(zb2 ze)),(157,zer),(158,zox)] [] [] [] [] []
def zbu (zb:List (List Term)→Bool×Bool) (zf:List Term→Bool×Bool) (zc:List Weighted→Bool×Bool) (ze:Weighted→Bool×Bool) (x_:Atom):Wy0 (Bool):=.i (x_.Kind==0) (.i (x_.Func != 0) (.k false) (.i (Int.ofNat x_.Items.length != 0) (.k false) (.i (x_.Op != 0) (.k false) (.i (!(x_.Bound.Kind==0&&(x_.Bound.Int==0&&(x_.Bound.Text.toList==(ByteArray.mk #[]).toList&&true)))) (.k false) (.bn (zb x_.Args) fun r1=>.i (r1) (.k false) (.bn (zwr x_.Row) fun r0=>.i (r0) (.k (Int.ofNat x_.Args.length==0)) (.k false))))))) (.i (x_.Kind==1) (.i (x_.Func != 0) (.k false) (.i (Int.ofNat x_.Items.length != 0) (.k false) (.i (x_.Op != 0) (.k false) (.i (!(x_.Bound.Kind==0&&(x_.Bound.Int==0&&(x_.Bound.Text.toList==(ByteArray.mk #[]).toList&&true)))) (.k false) (.i (!(x_.Row.Table==0&&(x_.Row.Seq==0&&true))) (.k false) (.bn (zb x_.Args) fun r3=>.i (r3) (.k false) (.i (Int.ofNat x_.Args.length==2) (.i (decide ((0:Int)≤(0:Int))&&decide (0<Int.ofNat x_.Args.length)) (.i (decide ((0:Int)≤(1:Int))&&decide (1<Int.ofNat x_.Args.length)) (.bn (zpW (x_.Args.getD (Int.toNat 0) default) (x_.Args.getD (Int.toNat 1) default)) fun r2=>.k (!r2)) .d) .d) (.k false)))))))) (.i (x_.Kind==2) (.i (x_.Func != 0) (.k false) (.i (Int.ofNat x_.Items.length != 0) (.k false) (.i (x_.Op != 0) (.k false) (.i (!(x_.Bound.Kind==0&&(x_.Bound.Int==0&&(x_.Bound.Text.toList==(ByteArray.mk #[]).toList&&true)))) (.k false) (.i (!(x_.Row.Table==0&&(x_.Row.Seq==0&&true))) (.k false) (.bn (zb x_.Args) fun r6=>.i (r6) (.k false) (.i (Int.ofNat x_.Args.length==1) (.i (decide ((0:Int)≤(0:Int))&&decide (0<Int.ofNat x_.Args.length)) (.bn (zlt (x_.Args.getD (Int.toNat 0) default)) fun r5=>.i (!r5) (.i (decide ((0:Int)≤(0:Int))&&decide (0<Int.ofNat x_.Args.length)) (.bn (zoU (x_.Args.getD (Int.toNat 0) default)) fun r4=>.k (!r4)) .d) (.k false)) .d) (.k false)))))))) (.i (x_.Kind==3) (.i (x_.Func != 0) (.k false) (.i (Int.ofNat x_.Items.length != 0) (.k false) (.i (x_.Op != 0) (.k false) (.i (!(x_.Bound.Kind==0&&(x_.Bound.Int==0&&(x_.Bound.Text.toList==(ByteArray.mk #[]).toList&&true)))) (.k false) (.i (!(x_.Row.Table==0&&(x_.Row.Seq==0&&true))) (.k false) (.bn (zb x_.Args) fun r8=>.i (r8) (.k false) (.i (Int.ofNat x_.Args.length==1) (.i (decide ((0:Int)≤(0:Int))&&decide (0<Int.ofNat x_.Args.length)) (.bn (zkT (x_.Args.getD (Int.toNat 0) default)) fun r7=>.k (!r7)) .d) (.k false)))))))) (.i (x_.Kind==4) (.i (!(x_.Row.Table==0&&(x_.Row.Seq==0&&true))) (.k false) (.bn (zb x_.Args) fun r12=>.i (r12) (.k false) (.bn (zc x_.Items) fun r11=>.i (Int.ofNat x_.Args.length==0) (.i (decide (Int.ofNat x_.Items.length>0)) (.i (!r11) (.bn (zc0 x_.Items) fun r10=>.i (r10) (.bn (znT x_.Func x_.Items x_.Op x_.Bound) fun r9=>.k r9) (.k false)) (.k false)) (.k false)) (.k false)))) (.i (x_.Func != 0) (.k false) (.i (Int.ofNat x_.Items.length != 0) (.k false) (.i (x_.Op != 0) (.k false) (.i (!(x_.Bound.Kind==0&&(x_.Bound.Int==0&&(x_.Bound.Text.toList==(ByteArray.mk #[]).toList&&true)))) (.k false) (.i (!(x_.Row.Table==0&&(x_.Row.Seq==0&&true))) (.k false) (.bn (zb x_.Args) fun r14=>.i (r14) (.k false) (.k false)))))))))))
def zpl (zb:List (List Term)→Bool×Bool) (zf:List Term→Bool×Bool) (zc:List Weighted→Bool×Bool) (ze:Weighted→Bool×Bool) (x_:Atom):Bool×Bool:=(zbu zb zf zc ze x_).fin default
theorem ztO (zb:List (List Term)→Bool×Bool) (zf:List Term→Bool×Bool) (zc:List Weighted→Bool×Bool) (ze:Weighted→Bool×Bool) (v_Row:RowID) (v_Args:List (List Term)) (v_Func:Int) (v_Items:List Weighted) (v_Op:Int) (v_Bound:Value)  :zgI (zbK zb zf zc ze) Tryz.f111 (body Tryz.f111) ⟨[.pure],[]⟩ [.pure (.agg (base.enc 158 (Atom.mk (Int.ofNat 0) v_Row v_Args v_Func v_Items v_Op v_Bound)))]=(zbu zb zf zc ze (Atom.mk (Int.ofNat 0) v_Row v_Args v_Func v_Items v_Op v_Bound)).ev noH (fun r=>some (zbt r)) none:=by kernel_rfl
theorem zuh (zb:List (List Term)→Bool×Bool) (zf:List Term→Bool×Bool) (zc:List Weighted→Bool×Bool) (ze:Weighted→Bool×Bool) (v_Row:RowID) (v_Args:List (List Term)) (v_Func:Int) (v_Items:List Weighted) (v_Op:Int) (v_Bound:Value)  :zgI (zbK zb zf zc ze) Tryz.f111 (body Tryz.f111) ⟨[.pure],[]⟩ [.pure (.agg (base.enc 158 (Atom.mk (Int.ofNat 1) v_Row v_Args v_Func v_Items v_Op v_Bound)))]=(zbu zb zf zc ze (Atom.mk (Int.ofNat 1) v_Row v_Args v_Func v_Items v_Op v_Bound)).ev noH (fun r=>some (zbt r)) none:=by kernel_rfl
theorem zt6 (zb:List (List Term)→Bool×Bool) (zf:List Term→Bool×Bool) (zc:List Weighted→Bool×Bool) (ze:Weighted→Bool×Bool) (v_Row:RowID) (v_Args:List (List Term)) (v_Func:Int) (v_Items:List Weighted) (v_Op:Int) (v_Bound:Value)  :zgI (zbK zb zf zc ze) Tryz.f111 (body Tryz.f111) ⟨[.pure],[]⟩ [.pure (.agg (base.enc 158 (Atom.mk (Int.ofNat 2) v_Row v_Args v_Func v_Items v_Op v_Bound)))]=(zbu zb zf zc ze (Atom.mk (Int.ofNat 2) v_Row v_Args v_Func v_Items v_Op v_Bound)).ev noH (fun r=>some (zbt r)) none:=by kernel_rfl
theorem ztZ (zb:List (List Term)→Bool×Bool) (zf:List Term→Bool×Bool) (zc:List Weighted→Bool×Bool) (ze:Weighted→Bool×Bool) (v_Row:RowID) (v_Args:List (List Term)) (v_Func:Int) (v_Items:List Weighted) (v_Op:Int) (v_Bound:Value)  :zgI (zbK zb zf zc ze) Tryz.f111 (body Tryz.f111) ⟨[.pure],[]⟩ [.pure (.agg (base.enc 158 (Atom.mk (Int.ofNat 3) v_Row v_Args v_Func v_Items v_Op v_Bound)))]=(zbu zb zf zc ze (Atom.mk (Int.ofNat 3) v_Row v_Args v_Func v_Items v_Op v_Bound)).ev noH (fun r=>some (zbt r)) none:=by kernel_rfl
theorem ztW (zb:List (List Term)→Bool×Bool) (zf:List Term→Bool×Bool) (zc:List Weighted→Bool×Bool) (ze:Weighted→Bool×Bool) (v_Row:RowID) (v_Args:List (List Term)) (v_Func:Int) (v_Items:List Weighted) (v_Op:Int) (v_Bound:Value)  :zgI (zbK zb zf zc ze) Tryz.f111 (body Tryz.f111) ⟨[.pure],[]⟩ [.pure (.agg (base.enc 158 (Atom.mk (Int.ofNat 4) v_Row v_Args v_Func v_Items v_Op v_Bound)))]=(zbu zb zf zc ze (Atom.mk (Int.ofNat 4) v_Row v_Args v_Func v_Items v_Op v_Bound)).ev noH (fun r=>some (zbt r)) none:=by kernel_rfl
theorem ztH (zb:List (List Term)→Bool×Bool) (zf:List Term→Bool×Bool) (zc:List Weighted→Bool×Bool) (ze:Weighted→Bool×Bool) (n:Nat) (v_Row:RowID) (v_Args:List (List Term)) (v_Func:Int) (v_Items:List Weighted) (v_Op:Int) (v_Bound:Value)  :zgI (zbK zb zf zc ze) Tryz.f111 (body Tryz.f111) ⟨[.pure],[]⟩ [.pure (.agg (base.enc 158 (Atom.mk (Int.ofNat (n+5)) v_Row v_Args v_Func v_Items v_Op v_Bound)))]=(zbu zb zf zc ze (Atom.mk (Int.ofNat (n+5)) v_Row v_Args v_Func v_Items v_Op v_Bound)).ev noH (fun r=>some (zbt r)) none:=by kernel_rfl
theorem zt3 (zb:List (List Term)→Bool×Bool) (zf:List Term→Bool×Bool) (zc:List Weighted→Bool×Bool) (ze:Weighted→Bool×Bool) (n:Nat) (v_Row:RowID) (v_Args:List (List Term)) (v_Func:Int) (v_Items:List Weighted) (v_Op:Int) (v_Bound:Value)  :zgI (zbK zb zf zc ze) Tryz.f111 (body Tryz.f111) ⟨[.pure],[]⟩ [.pure (.agg (base.enc 158 (Atom.mk (Int.negSucc n) v_Row v_Args v_Func v_Items v_Op v_Bound)))]=(zbu zb zf zc ze (Atom.mk (Int.negSucc n) v_Row v_Args v_Func v_Items v_Op v_Bound)).ev noH (fun r=>some (zbt r)) none:=by kernel_rfl
theorem zur (zb:List (List Term)→Bool×Bool) (zf:List Term→Bool×Bool) (zc:List Weighted→Bool×Bool) (ze:Weighted→Bool×Bool) (x_:Atom):zgI (zbK zb zf zc ze) Tryz.f111 (body Tryz.f111) ⟨[.pure],[]⟩ [.pure (.agg (base.enc 158 x_))]=(zbu zb zf zc ze x_).ev noH (fun r=>some (zbt r)) none:=by
 obtain ⟨v_Kind,v_Row,v_Args,v_Func,v_Items,v_Op,v_Bound⟩:=x_
 match v_Kind with
 | .ofNat 0=>exact ztO zb zf zc ze v_Row v_Args v_Func v_Items v_Op v_Bound 
 | .ofNat 1=>exact zuh zb zf zc ze v_Row v_Args v_Func v_Items v_Op v_Bound 
 | .ofNat 2=>exact zt6 zb zf zc ze v_Row v_Args v_Func v_Items v_Op v_Bound 
 | .ofNat 3=>exact ztZ zb zf zc ze v_Row v_Args v_Func v_Items v_Op v_Bound 
 | .ofNat 4=>exact ztW zb zf zc ze v_Row v_Args v_Func v_Items v_Op v_Bound 
 | .ofNat (n+5)=>exact ztH zb zf zc ze n v_Row v_Args v_Func v_Items v_Op v_Bound 
 | .negSucc n=>exact zt3 zb zf zc ze n v_Row v_Args v_Func v_Items v_Op v_Bound 
theorem zs7 (zb:List (List Term)→Bool×Bool) (zf:List Term→Bool×Bool) (zc:List Weighted→Bool×Bool) (ze:Weighted→Bool×Bool) (zhU:Sound Tryz.prog base 148 (zbr zb)) (zdY:Sound Tryz.prog base 149 (zb3 zf)) (ziv:Sound Tryz.prog base 155 (zbC zc)) (zdW:Sound Tryz.prog base 156 (zb2 ze)):Sound Tryz.prog base 111 (zid (zpl zb zf zc ze)):=
 zt (cx':=(zbK zb zf zc ze)) zG zn zD (zw ⟨zk3,zhU,zdY,zBC,zxO,ztP,zwI,ztl,ziv,zdW,ziF,zvx,trivial⟩) Tryz.call111 Tryz.func111 (c:=body Tryz.f111) (by kernel_rfl) (zi (l:=[]) (by kernel_rfl) trivial) (sg:=⟨[.pure],[]⟩) (A:=zpB) (res:=zbt) (W:=fun x=>zbu zb zf zc ze x.1) (z:=default) (fun x=>zur zb zf zc ze x.1) (fun _=>by kernel_rfl)
def ztv (zS:List Term→Bool×Bool):Cx ty:=mkCx base 11 [(69,(zfq zS))] [] [] [] [] []
def zl3 (zS:List Term→Bool×Bool) (a:List Term):Wy0 (Bool):=.bn (zS a) fun r0=>.i (!r0) (.k true) (.k (Int.ofNat a.length==0))
def zno (zS:List Term→Bool×Bool) (a:List Term):Bool×Bool:=(zl3 zS a).fin default
theorem zq6 (zS:List Term→Bool×Bool) (zms:Sound Tryz.prog base 69 (zfq zS)):Sound Tryz.prog base 149 (zb3 (zno zS)):=
 zt (cx':=(ztv zS)) zG zn zD (zw ⟨zms,trivial⟩) Tryz.call149 Tryz.func149 (c:=body Tryz.f149) (by kernel_rfl) (zi (l:=[]) (by kernel_rfl) trivial) (sg:=⟨[.pure],[]⟩) (A:=znl) (res:=zlW) (W:=fun x=>zl3 zS x.1) (z:=default)
def ztk (zS:List Term→Bool×Bool):Cx ty:=mkCx base 13 [(69,(zfq zS))] [] [] [] [] []
def zlK (zS:List Term→Bool×Bool) (w:Weighted):Wy0 (Bool):=.bn (zS w.Ann) fun r0=>.i (!r0) (.k true) (.k (Int.ofNat w.Ann.length==0))
def zne (zS:List Term→Bool×Bool) (w:Weighted):Bool×Bool:=(zlK zS w).fin default
theorem zra (zS:List Term→Bool×Bool) (zms:Sound Tryz.prog base 69 (zfq zS)):Sound Tryz.prog base 156 (zb2 (zne zS)):=
 zt (cx':=(ztk zS)) zG zn zD (zw ⟨zms,trivial⟩) Tryz.call156 Tryz.func156 (c:=body Tryz.f156) (by kernel_rfl) (zi (l:=[]) (by kernel_rfl) trivial) (sg:=⟨[.pure],[]⟩) (A:=zny) (res:=zlQ) (W:=fun x=>zlK zS x.1) (z:=default)
def zhJ (zf:List Term→Bool×Bool) (zH:List (List Term)→Bool×Int):Cx ty:=mkCx base 9 [(149,(zb3 zf)),(199,(zbv zH))] [] [] [] [] []
def zdr (zf:List Term→Bool×Bool) (zH:List (List Term)→Bool×Int) (s:List (List Term)):Wy0 (Bool):=.bn (zH s) fun r0=>.k (decide (r0≥0))
def zdP (zf:List Term→Bool×Bool) (zH:List (List Term)→Bool×Int) (s:List (List Term)):Bool×Bool:=(zdr zf zH s).fin default
theorem zhb (zf:List Term→Bool×Bool) (zH:List (List Term)→Bool×Int) (zdY:Sound Tryz.prog base 149 (zb3 zf)) (ziu:Sound Tryz.prog base 199 (zbv zH)):Sound Tryz.prog base 148 (zbr (zdP zf zH)):=
 zt (cx':=(zhJ zf zH)) zG zn zD (zw ⟨zdY,ziu,trivial⟩) Tryz.call148 Tryz.func148 (c:=body Tryz.f148) (by kernel_rfl) (zi (l:=[]) (by kernel_rfl) trivial) (sg:=⟨[.pure],[]⟩) (A:=zdR) (res:=zdn) (W:=fun x=>zdr zf zH x.1) (z:=default)
def zie (ze:Weighted→Bool×Bool) (zI:List Weighted→Bool×Int):Cx ty:=mkCx base 9 [(156,(zb2 ze)),(201,(zbS zI))] [] [] [] [] []
def zd8 (ze:Weighted→Bool×Bool) (zI:List Weighted→Bool×Int) (s:List Weighted):Wy0 (Bool):=.bn (zI s) fun r0=>.k (decide (r0≥0))
def zeC (ze:Weighted→Bool×Bool) (zI:List Weighted→Bool×Int) (s:List Weighted):Bool×Bool:=(zd8 ze zI s).fin default
theorem zhO (ze:Weighted→Bool×Bool) (zI:List Weighted→Bool×Int) (zdW:Sound Tryz.prog base 156 (zb2 ze)) (zji:Sound Tryz.prog base 201 (zbS zI)):Sound Tryz.prog base 155 (zbC (zeC ze zI)):=
 zt (cx':=(zie ze zI)) zG zn zD (zw ⟨zdW,zji,trivial⟩) Tryz.call155 Tryz.func155 (c:=body Tryz.f155) (by kernel_rfl) (zi (l:=[]) (by kernel_rfl) trivial) (sg:=⟨[.pure],[]⟩) (A:=zez) (res:=zec) (W:=fun x=>zd8 ze zI x.1) (z:=default)
abbrev ttTslicesIndexFuncLapiAnnotationapiAnnotationv10:=List (List Term)×Unit×Int×Int×Unit
def zib (zf:List Term→Bool×Bool) (s:List (List Term)) (t7:Int) (t8:Int):Wy ttTslicesIndexFuncLapiAnnotationapiAnnotationv10 (Unit) (Int⊕Unit):=.i (decide (t8<t7)) (.i (decide (0≤t8)&&decide (t8<Int.ofNat s.length)) (.bn (zf (s.getD t8.toNat default)) fun r0=>.i (r0) (.k (.inl t8)) (.h (s,(),t7,(IntKind.i64.wrap (t8+1)),()) ())) .d) (.k (.inr ()))
def zb9 (zf:List Term→Bool×Bool) (x:ttTslicesIndexFuncLapiAnnotationapiAnnotationv10) (y:Unit):Wy ttTslicesIndexFuncLapiAnnotationapiAnnotationv10 (Unit) (Int⊕Unit):=zib zf x.1 x.2.2.1 x.2.2.2.1
def zh8 (zf:List Term→Bool×Bool) (n:Nat) (s:List (List Term)) (t7:Int) (t8:Int):Bool×(Int⊕Unit):=zN (zb9 zf) (.inl default) n (s,(),t7,t8,()) ()
def zdG (r:Int⊕Unit):LTree ty:=.ite (isL r) (.done .ret [.lit (.int .i64 (getL r))] []) (.done (.exit 0) [] [])
def zdN:LL ty ttTslicesIndexFuncLapiAnnotationapiAnnotationv10:=za (lSl 36) (za (lFn 149 (zy)) (za (lInt .i64) (za (lInt .i64) zy)))
def zdO:BL ty (Unit):=bNil
def zdB (x:ttTslicesIndexFuncLapiAnnotationapiAnnotationv10) (y:Unit):Nat:=(x.1.length+Int.toNat x.2.2.1+Int.toNat x.2.2.2.1+1000)
def zdK (zf:List Term→Bool×Bool):Cx ty:=mkCx base 19 [(149,(zb3 zf))] [] [(2,[(0,.keep),(1,.keep),(7,.keep),(8,.keep)])] [(2,1,[]),(2,0,[(4,.keep)])] [(2,spW zdN zdO (zb9 zf) (.inl default) zdG zdB)] []
theorem zhY (zf:List Term→Bool×Bool):zZ (zdK zf) (lp (body Tryz.f199) 0):=zP (id:=2) (V:=zdN) (B:=zdO) (W:=zb9 zf) (z:=.inl default) (tr:=zdG) (m:=zdB)
def zdV (zf:List Term→Bool×Bool) (s:List (List Term)):Wy0 (Int):=.bn (zh8 zf (s.length+(Int.ofNat s.length).toNat +Int.toNat 0+1000) s (Int.ofNat s.length) 0) fun r2=>.i (isL r2) (.k (getL r2)) (.k (-1:Int))
def zef (zf:List Term→Bool×Bool) (s:List (List Term)):Bool×Int:=(zdV zf s).fin default
theorem zhC (zf:List Term→Bool×Bool) (zdY:Sound Tryz.prog base 149 (zb3 zf)):Sound Tryz.prog base 199 (zbv (zef zf)):=
 zt (cx':=(zdK zf)) zG zn zD (zw ⟨zdY,trivial⟩) Tryz.call199 Tryz.func199 (c:=body Tryz.f199) (by kernel_rfl) (zi (l:=[lp (body Tryz.f199) 0]) (by kernel_rfl) ⟨zhY zf,trivial⟩) (sg:=⟨[.pure],[]⟩) (A:=zei) (res:=zd1) (W:=fun x=>zdV zf x.1) (z:=default)
abbrev ttTslicesIndexFuncLapiWeightedapiWeightedv20:=List Weighted×Unit×Int×Int×Unit
def ziV (ze:Weighted→Bool×Bool) (s:List Weighted) (t7:Int) (t8:Int):Wy ttTslicesIndexFuncLapiWeightedapiWeightedv20 (Unit) (Int⊕Unit):=.i (decide (t8<t7)) (.i (decide (0≤t8)&&decide (t8<Int.ofNat s.length)) (.bn (ze (s.getD t8.toNat default)) fun r0=>.i (r0) (.k (.inl t8)) (.h (s,(),t7,(IntKind.i64.wrap (t8+1)),()) ())) .d) (.k (.inr ()))
def zcu (ze:Weighted→Bool×Bool) (x:ttTslicesIndexFuncLapiWeightedapiWeightedv20) (y:Unit):Wy ttTslicesIndexFuncLapiWeightedapiWeightedv20 (Unit) (Int⊕Unit):=ziV ze x.1 x.2.2.1 x.2.2.2.1
def zi4 (ze:Weighted→Bool×Bool) (n:Nat) (s:List Weighted) (t7:Int) (t8:Int):Bool×(Int⊕Unit):=zN (zcu ze) (.inl default) n (s,(),t7,t8,()) ()
def zem (r:Int⊕Unit):LTree ty:=.ite (isL r) (.done .ret [.lit (.int .i64 (getL r))] []) (.done (.exit 0) [] [])
def zeB:LL ty ttTslicesIndexFuncLapiWeightedapiWeightedv20:=za (lSl 182) (za (lFn 156 (zy)) (za (lInt .i64) (za (lInt .i64) zy)))
def zew:BL ty (Unit):=bNil
def zeh (x:ttTslicesIndexFuncLapiWeightedapiWeightedv20) (y:Unit):Nat:=(x.1.length+Int.toNat x.2.2.1+Int.toNat x.2.2.2.1+1000)
def zet (ze:Weighted→Bool×Bool):Cx ty:=mkCx base 19 [(156,(zb2 ze))] [] [(2,[(0,.keep),(1,.keep),(7,.keep),(8,.keep)])] [(2,1,[]),(2,0,[(4,.keep)])] [(2,spW zeB zew (zcu ze) (.inl default) zem zeh)] []
theorem ziS (ze:Weighted→Bool×Bool):zZ (zet ze) (lp (body Tryz.f201) 0):=zP (id:=2) (V:=zeB) (B:=zew) (W:=zcu ze) (z:=.inl default) (tr:=zem) (m:=zeh)
def zeE (ze:Weighted→Bool×Bool) (s:List Weighted):Wy0 (Int):=.bn (zi4 ze (s.length+(Int.ofNat s.length).toNat +Int.toNat 0+1000) s (Int.ofNat s.length) 0) fun r2=>.i (isL r2) (.k (getL r2)) (.k (-1:Int))
def zfe (ze:Weighted→Bool×Bool) (s:List Weighted):Bool×Int:=(zeE ze s).fin default
theorem zin (ze:Weighted→Bool×Bool) (zdW:Sound Tryz.prog base 156 (zb2 ze)):Sound Tryz.prog base 201 (zbS (zfe ze)):=
 zt (cx':=(zet ze)) zG zn zD (zw ⟨zdW,trivial⟩) Tryz.call201 Tryz.func201 (c:=body Tryz.f201) (by kernel_rfl) (zi (l:=[lp (body Tryz.f201) 0]) (by kernel_rfl) ⟨ziS ze,trivial⟩) (sg:=⟨[.pure],[]⟩) (A:=zfd) (res:=zeH) (W:=fun x=>zeE ze x.1) (z:=default)
def zcC:Nat→(List Term→Bool×Bool)×(Atom→Bool×Bool)×(List Term→Bool×Bool)×(Weighted→Bool×Bool)×(List (List Term)→Bool×Int)×(List (List Term)→Bool×Bool)×(List Weighted→Bool×Int)×(List Weighted→Bool×Bool)
 | 0=>(fun _=>(false,default),fun _=>(false,default),fun _=>(false,default),fun _=>(false,default),fun _=>(false,default),fun _=>(false,default),fun _=>(false,default),fun _=>(false,default))
 | n+1=>(ztE ((zcC n).2.1),zpl ((zcC n).2.2.2.2.2.1) ((zcC n).2.2.1) ((zcC n).2.2.2.2.2.2.2) ((zcC n).2.2.2.1),zno ((zcC n).1),zne ((zcC n).1),zef ((zcC n).2.2.1),zdP ((zcC n).2.2.1) ((zcC n).2.2.2.2.1),zfe ((zcC n).2.2.2.1),zeC ((zcC n).2.2.2.1) ((zcC n).2.2.2.2.2.2.1))
def ztV (n:Nat):List Term→Bool×Bool:=(zcC n).1
def zxW (n:Nat):Atom→Bool×Bool:=(zcC n).2.1
def zvb (n:Nat):List Term→Bool×Bool:=(zcC n).2.2.1
def zvn (n:Nat):Weighted→Bool×Bool:=(zcC n).2.2.2.1
def ziO (n:Nat):List (List Term)→Bool×Int:=(zcC n).2.2.2.2.1
def zh7 (n:Nat):List (List Term)→Bool×Bool:=(zcC n).2.2.2.2.2.1
def zjM (n:Nat):List Weighted→Bool×Int:=(zcC n).2.2.2.2.2.2.1
def zi3 (n:Nat):List Weighted→Bool×Bool:=(zcC n).2.2.2.2.2.2.2
theorem zCI:∀ n,Sound Tryz.prog base 69 (zfq (ztV n))∧Sound Tryz.prog base 111 (zid (zxW n))∧Sound Tryz.prog base 149 (zb3 (zvb n))∧Sound Tryz.prog base 156 (zb2 (zvn n))∧Sound Tryz.prog base 199 (zbv (ziO n))∧Sound Tryz.prog base 148 (zbr (zh7 n))∧Sound Tryz.prog base 201 (zbS (zjM n))∧Sound Tryz.prog base 155 (zbC (zi3 n))
 | 0=>⟨zbe Tryz.call69 (fun _=>rfl),zbe Tryz.call111 (fun _=>rfl),zbe Tryz.call149 (fun _=>rfl),zbe Tryz.call156 (fun _=>rfl),zbe Tryz.call199 (fun _=>rfl),zbe Tryz.call148 (fun _=>rfl),zbe Tryz.call201 (fun _=>rfl),zbe Tryz.call155 (fun _=>rfl)⟩
 | n+1=>by
  have ih:=zCI n
  exact ⟨zwa _ (ih.2.1),zs7 _ _ _ _ (ih.2.2.2.2.2.1) (ih.2.2.1) (ih.2.2.2.2.2.2.2) (ih.2.2.2.1),zq6 _ (ih.1),zra _ (ih.1),zhC _ (ih.2.2.1),zhb _ _ (ih.2.2.1) (ih.2.2.2.2.1),zin _ (ih.2.2.2.1),zhO _ _ (ih.2.2.2.1) (ih.2.2.2.2.2.2.1)⟩
def zwn:List Term→Bool×Bool:=ztV 1000
def annotation_Valid_spec:Ab.Spec ty:=zfq zwn
theorem zxw:Sound Tryz.prog base 69 annotation_Valid_spec:=(zCI 1000).1
def zBN (r:List Term×Int):ARes ty:=⟨[.own 152 r.1,.pure (.lit (.int .i64 r.2))],[]⟩
def zDj:AL base (List Term×List Term×Unit):=zg (zh (vSl 152)) (zg (zh (vSl 152)) aNil)
def zC7 (F:List Term→List Term→Bool×(List Term×Int)):Ab.Spec ty:=zl zDj fun x=>((F x.1 x.2.1).1,zBN (F x.1 x.2.1).2)
def zym:List Term→List Term→Bool×(List Term×Int):=fun a _=>(decide (a.length=a.length+1),default)
def annotation_Add_spec:Ab.Spec ty:=zC7 zym
theorem zzZ:Sound Tryz.prog base 77 annotation_Add_spec:=zbe Tryz.call77 (fun _=>decide_eq_false (Nat.ne_of_lt (Nat.lt_succ_self _)))
def zvw:Cx ty:=mkCx base 7 [] [] [] [] [] []
def zom (x_:Row):Wy0 (Bool):=.k (Int.ofNat x_.Ann.length==0)
def zix (x_:Row):Bool×Bool:=(zom x_).fin default
def zna (r:Bool):ARes ty:=⟨[.pure (.lit (.bool r))],[]⟩
def zoG:AL base (Row×Unit):=zg (zh (vAgg 38)) aNil
def zgL:Ab.Spec ty:=zl zoG fun x=>((zix x.1).1,zna (zix x.1).2)
theorem zis:Sound Tryz.prog base 72 zgL:=
 zt (cx':=zvw) zG zn zD (zw trivial) Tryz.call72 Tryz.func72 (c:=body Tryz.f72) (by kernel_rfl) (zi (l:=[]) (by kernel_rfl) trivial) (sg:=⟨[.pure],[]⟩) (A:=zoG) (res:=zna) (W:=fun x=>zom x.1) (z:=default)
abbrev ttTslicesCompareFuncLapiValueLapiValueapiValueapiValue0:=List Value×List Value×Unit×List Value×Int×Int×Unit
abbrev ttTslicesCompareFuncLapiValueLapiValueapiValueapiValue1:=Int⊕(List Value×List Value)
def zgX (s1:List Value) (s2:List Value) (t11:List Value) (t12:Int) (t13:Int):Wy ttTslicesCompareFuncLapiValueLapiValueapiValueapiValue0 (Unit) ttTslicesCompareFuncLapiValueLapiValueapiValueapiValue1:=.i (decide (t13<t12)) (.i (decide (0≤t13)&&decide (t13<Int.ofNat t11.length)) (.i (decide (t13≥Int.ofNat s2.length)) (.k (.inl 1)) (.i (decide (0≤t13)&&decide (t13<Int.ofNat s2.length)) (.bn (zbL (t11.getD t13.toNat default) (s2.getD t13.toNat default)) fun r0=>.i (r0 != 0) (.k (.inl (r0))) (.h (s1,s2,(),t11,t12,(IntKind.i64.wrap (t13+1)),()) ())) .d)) .d) (.k (.inr (s1,s2)))
def zbI (x:ttTslicesCompareFuncLapiValueLapiValueapiValueapiValue0) (y:Unit):Wy ttTslicesCompareFuncLapiValueLapiValueapiValueapiValue0 (Unit) ttTslicesCompareFuncLapiValueLapiValueapiValueapiValue1:=zgX x.1 x.2.1 x.2.2.2.1 x.2.2.2.2.1 x.2.2.2.2.2.1
def zg0 (n:Nat) (s1:List Value) (s2:List Value) (t11:List Value) (t12:Int) (t13:Int):Bool×ttTslicesCompareFuncLapiValueLapiValueapiValueapiValue1:=zN (zbI) (.inl default) n (s1,s2,(),t11,t12,t13,()) ()
def zcI (r:ttTslicesCompareFuncLapiValueLapiValueapiValueapiValue1):LTree ty:=.ite (isL r) (.done .ret [.lit (.int .i64 (getL r))] []) (.done (.exit 0) [.sl 40 (getR r).1,.sl 40 (getR r).2] [])
def zcS:LL ty ttTslicesCompareFuncLapiValueLapiValueapiValueapiValue0:=za (lSl 40) (za (lSl 40) (za (lFn 79 (zy)) (za (lSl 40) (za (lInt .i64) (za (lInt .i64) zy)))))
def zcN:BL ty (Unit):=bNil
def zcK (x:ttTslicesCompareFuncLapiValueLapiValueapiValueapiValue0) (y:Unit):Nat:=(x.1.length+x.2.1.length+x.2.2.2.1.length+Int.toNat x.2.2.2.2.1+Int.toNat x.2.2.2.2.2.1+1000)
def zcP:Cx ty:=mkCx base 39 [(79,zcd)] [] [(2,[(0,.keep),(1,.keep),(2,.keep),(11,.keep),(12,.keep),(13,.keep)])] [(2,1,[(0,.keep),(1,.keep)]),(2,0,[(6,.keep)])] [(2,spW zcS zcN (zbI) (.inl default) zcI zcK)] []
theorem zgS:zZ zcP (lp (body Tryz.f161) 0):=zP (id:=2) (V:=zcS) (B:=zcN) (W:=zbI) (z:=.inl default) (tr:=zcI) (m:=zcK)
def zcU (s1:List Value) (s2:List Value):Wy0 (Int):=.bn (zg0 (s1.length+s2.length+s1.length+(Int.ofNat s1.length).toNat +Int.toNat 0+1000) s1 s2 s1 (Int.ofNat s1.length) 0) fun r2=>.i (isL r2) (.k (getL r2)) (.i (decide (Int.ofNat (getR r2).1.length<Int.ofNat (getR r2).2.length)) (.k (-1:Int)) (.k 0))
def zbQ (s1:List Value) (s2:List Value):Bool×Int:=(zcU s1 s2).fin default
def zcJ (r:Int):ARes ty:=⟨[.pure (.lit (.int .i64 r))],[]⟩
def zcT:AL base (List Value×List Value×Unit×Unit):=zg (zh (vSl 40)) (zg (zh (vSl 40)) (zg (zh (vFn 79 vNil)) aNil))
def zcH:Ab.Spec ty:=zl zcT fun x=>((zbQ x.1 x.2.1).1,zcJ (zbQ x.1 x.2.1).2)
theorem zgx:Sound Tryz.prog base 161 zcH:=
 zt (cx':=zcP) zG zn zD (zw ⟨zcn,trivial⟩) Tryz.call161 Tryz.func161 (c:=body Tryz.f161) (by kernel_rfl) (zi (l:=[lp (body Tryz.f161) 0]) (by kernel_rfl) ⟨zgS,trivial⟩) (sg:=⟨[.pure],[]⟩) (A:=zcT) (res:=zcJ) (W:=fun x=>zcU x.1 x.2.1) (z:=default)
def zzF:Cx ty:=mkCx base 8 [(79,zcd),(161,zcH)] [] [] [] [] []
def zsz (a:List Value) (b:List Value):Wy0 (Int):=.bn (zbQ a b) fun r0=>.k r0
def zoV (a:List Value) (b:List Value):Bool×Int:=(zsz a b).fin default
def zp3 (r:Int):ARes ty:=⟨[.pure (.lit (.int .i64 r))],[]⟩
def zsD:AL base (List Value×List Value×Unit):=zg (zh (vSl 40)) (zg (zh (vSl 40)) aNil)
def zpu:Ab.Spec ty:=zl zsD fun x=>((zoV x.1 x.2.1).1,zp3 (zoV x.1 x.2.1).2)
theorem zwy:Sound Tryz.prog base 114 zpu:=
 zt (cx':=zzF) zG zn zD (zw ⟨zcn,zgx,trivial⟩) Tryz.call114 Tryz.func114 (c:=body Tryz.f114) (by kernel_rfl) (zi (l:=[]) (by kernel_rfl) trivial) (sg:=⟨[.pure],[]⟩) (A:=zsD) (res:=zp3) (W:=fun x=>zsz x.1 x.2.1) (z:=default)
def zAQ:Cx ty:=mkCx base 10 [(114,zpu)] [] [] [] [] []
def zug (x_:Row) (y_:Row):Wy0 (Int):=.bn (zoV x_.Values y_.Values) fun r0=>.k r0
def zbA (x_:Row) (y_:Row):Bool×Int:=(zug x_ y_).fin default
def zrt (r:Int):ARes ty:=⟨[.pure (.lit (.int .i64 r))],[]⟩
def zuc:AL base (Row×Row×Unit):=zg (zh (vAgg 38)) (zg (zh (vAgg 38)) aNil)
def zll:Ab.Spec ty:=zl zuc fun x=>((zbA x.1 x.2.1).1,zrt (zbA x.1 x.2.1).2)
theorem zpg:Sound Tryz.prog base 74 zll:=
 zt (cx':=zAQ) zG zn zD (zw ⟨zwy,trivial⟩) Tryz.call74 Tryz.func74 (c:=body Tryz.f74) (by kernel_rfl) (zi (l:=[]) (by kernel_rfl) trivial) (sg:=⟨[.pure],[]⟩) (A:=zuc) (res:=zrt) (W:=fun x=>zug x.1 x.2.1) (z:=default)
def zu8 (r:List Term×Int):ARes ty:=⟨[.own 152 r.1,.pure (.lit (.int .i64 r.2))],[]⟩
def zwB:AL base (List Term×List Binding×Unit):=zg (zh (vSl 152)) (zg (zh (vSl 210)) aNil)
def zwP (F:List Term→List Binding→Bool×(List Term×Int)):Ab.Spec ty:=zl zwB fun x=>((F x.1 x.2.1).1,zu8 (F x.1 x.2.1).2)
def zqr:List Term→List Binding→Bool×(List Term×Int):=fun a _=>(decide (a.length=a.length+1),default)
def annotation_Substitute_spec:Ab.Spec ty:=zwP zqr
theorem zt0:Sound Tryz.prog base 115 annotation_Substitute_spec:=zbe Tryz.call115 (fun _=>decide_eq_false (Nat.ne_of_lt (Nat.lt_succ_self _)))
def zc3:Cx ty:={ base with nt:=8 }
def zgH (s:List Value):Bool×List Value:=(decide (s.length*32≤zds),s)
def zhR:Ab.Spec ty:=zl (cx:=base) (zg (zh (vSl 40)) aNil) fun x=>((zgH x.1).1,⟨[.own 40 (zgH x.1).2],[]⟩)
theorem znH:zgI zc3 Tryz.f51 (body Tryz.f51) ⟨[.own 40],[]⟩ [.pure (.lit (.slice none 0 0))]=some ⟨[.own 40 []],[]⟩:=by kernel_rfl
theorem zmI (p:Addr) (c:Nat):zgI zc3 Tryz.f51 (body Tryz.f51) ⟨[.own 40],[]⟩ [.pure (.lit (.slice (some p) 0 c))]=some ⟨[.own 40 []],[]⟩:=by kernel_rfl
theorem zm3 (l:List Value):zgI zc3 Tryz.f51 (body Tryz.f51) ⟨[.own 40],[]⟩ [.pure (.sl 40 l)]=bif !l.isEmpty then bif decide ((([]:List (ty 40)).length+l.length)*32≤zds) then some ⟨[.own 40 l],[]⟩ else none else none:=by kernel_rfl
theorem zmX:Sound Tryz.prog base 51 zhR:=
 zxI (cx':=zc3) (bytes:=32) zG zn ⟨⟨rfl,rfl,rfl,rfl,rfl,rfl⟩,rfl⟩ (fun g s h=>by cases h) Tryz.call51 Tryz.func51 (c:=body Tryz.f51) (by kernel_rfl) (zi (l:=[]) (by kernel_rfl) trivial) znH zmI zm3 (by kernel_rfl)
def zBs:Cx ty:=mkCx base 17 [(51,zhR),(115,annotation_Substitute_spec)] [] [] [] [] []
def zuZ (x_:Row) (a:List Term):Wy0 (Row):=.bn (zqr a []) fun r1=>.bn (zgH x_.Values) fun r0=>.k (⟨r0,r1.1⟩:Row)
def znu (x_:Row) (a:List Term):Bool×Row:=(zuZ x_ a).fin default
def zsx (r:Row):ARes ty:=⟨[.pure (.agg (base.enc 38 r))],[]⟩
def zuX:AL base (Row×List Term×Unit):=zg (zh (vAgg 38)) (zg (zh (vSl 152)) aNil)
def zry:Ab.Spec ty:=zl zuX fun x=>((znu x.1 x.2.1).1,zsx (znu x.1 x.2.1).2)
theorem zyL:Sound Tryz.prog base 76 zry:=
 zt (cx':=zBs) zG zn zD (zw ⟨zmX,zt0,trivial⟩) Tryz.call76 Tryz.func76 (c:=body Tryz.f76) (by kernel_rfl) (zi (l:=[]) (by kernel_rfl) trivial) (sg:=⟨[.pure],[]⟩) (A:=zuX) (res:=zsx) (W:=fun x=>zuZ x.1 x.2.1) (z:=default)
def zAP:Cx ty:=mkCx base 16 [(83,zgV)] [] [] [] [] []
def ztJ (p:pair):Wy0 (Bool):=.bn (zgt p.v) fun r0=>.i (!r0) (.k true) (.k (p.v.Kind != p.c.Type_))
def zpX (p:pair):Bool×Bool:=(ztJ p).fin default
def zrv (r:Bool):ARes ty:=⟨[.pure (.lit (.bool r))],[]⟩
def ztL:AL base (pair×Unit):=zg (zh (vAgg 147)) aNil
def ziA:Ab.Spec ty:=zl ztL fun x=>((zpX x.1).1,zrv (zpX x.1).2)
theorem zkJ:Sound Tryz.prog base 106 ziA:=
 zt (cx':=zAP) zG zn zD (zw ⟨zhu,trivial⟩) Tryz.call106 Tryz.func106 (c:=body Tryz.f106) (by kernel_rfl) (zi (l:=[]) (by kernel_rfl) trivial) (sg:=⟨[.pure],[]⟩) (A:=ztL) (res:=zrv) (W:=fun x=>ztJ x.1) (z:=default)
abbrev ttTrelationzip0:=List Column×Unit×List Value×Int×Int×Unit
abbrev ttTrelationzip1:=List pair×Unit
def zDS (l:List Column) (t8:List Value) (t9:Int) (t10:Int) (out_:List pair):Wy ttTrelationzip0 ttTrelationzip1 (List pair):=.i (decide (t10<t9)) (.i (decide (0≤t10)&&decide (t10<Int.ofNat t8.length)) (.i (decide (0≤t10)&&decide (t10<Int.ofNat l.length)) (.i (decide ((out_.length+[pair.mk (l.getD t10.toNat default) (t8.getD t10.toNat default)].length)*56≤zds)) (.h (l,(),t8,t9,(IntKind.i64.wrap (t10+1)),()) ((out_++[pair.mk (l.getD t10.toNat default) (t8.getD t10.toNat default)]),())) .d) .d) .d) (.k out_)
def zrd (x:ttTrelationzip0) (y:ttTrelationzip1):Wy ttTrelationzip0 ttTrelationzip1 (List pair):=zDS x.1 x.2.2.1 x.2.2.2.1 x.2.2.2.2.1 y.1
def zDI (n:Nat) (l:List Column) (t8:List Value) (t9:Int) (t10:Int) (out_:List pair):Bool×List pair:=zN (zrd) default n (l,(),t8,t9,t10,()) (out_,())
def zvu (r:List pair):LTree ty:=.done (.exit 0) [.own 104] [.arr 147 r false]
def zxj:LL ty ttTrelationzip0:=za (lSl 67) (za (lOwn 104) (za (lSl 40) (za (lInt .i64) (za (lInt .i64) zy))))
def zwT:BL ty ttTrelationzip1:=bArr 147 false (bNil)
def zvM (x:ttTrelationzip0) (y:ttTrelationzip1):Nat:=(x.1.length+x.2.2.1.length+Int.toNat x.2.2.2.1+Int.toNat x.2.2.2.2.1+y.1.length+1000)
def zxs:Cx ty:=mkCx base 26 [] [] [(3,[(0,.keep),(5,.own 147),(8,.keep),(9,.keep),(10,.keep)])] [(3,1,[(5,.keep)])] [(3,spW zxj zwT (zrd) default zvu zvM)] []
theorem zC4:zZ zxs (lp (body Tryz.f105) 0):=zP (id:=3) (V:=zxj) (B:=zwT) (W:=zrd) (z:=default) (tr:=zvu) (m:=zvM)
def zyx (l:List Column) (row:List Value):Wy0 (List pair):=.bn (zDI (l.length+row.length+(Int.ofNat row.length).toNat +Int.toNat 0+0+1000) l row (Int.ofNat row.length) 0 []) fun r0=>.k r0
def zv6 (l:List Column) (row:List Value):Bool×List pair:=(zyx l row).fin default
def zv2 (r:List pair):ARes ty:=⟨[.own 147 r],[]⟩
def zyR:AL base (List Column×List Value×Unit):=zg (zh (vSl 67)) (zg (zh (vSl 40)) aNil)
def zuO:Ab.Spec ty:=zl zyR fun x=>((zv6 x.1 x.2.1).1,zv2 (zv6 x.1 x.2.1).2)
theorem zA6:Sound Tryz.prog base 105 zuO:=
 zt (cx':=zxs) zG zn zD (zw trivial) Tryz.call105 Tryz.func105 (c:=body Tryz.f105) (by kernel_rfl) (zi (l:=[lp (body Tryz.f105) 0]) (by kernel_rfl) ⟨zC4,trivial⟩) (sg:=⟨[.own 147],[]⟩) (A:=zyR) (res:=zv2) (W:=fun x=>zyx x.1 x.2.1) (z:=default)
abbrev ttTslicesIndexFuncLrelationpairrelationpairfi0:=List pair×Unit×Int×Int×Unit
def ziZ (s:List pair) (t7:Int) (t8:Int):Wy ttTslicesIndexFuncLrelationpairrelationpairfi0 (Unit) (Int⊕Unit):=.i (decide (t8<t7)) (.i (decide (0≤t8)&&decide (t8<Int.ofNat s.length)) (.bn (zpX (s.getD t8.toNat default)) fun r0=>.i (r0) (.k (.inl t8)) (.h (s,(),t7,(IntKind.i64.wrap (t8+1)),()) ())) .d) (.k (.inr ()))
def zcs (x:ttTslicesIndexFuncLrelationpairrelationpairfi0) (y:Unit):Wy ttTslicesIndexFuncLrelationpairrelationpairfi0 (Unit) (Int⊕Unit):=ziZ x.1 x.2.2.1 x.2.2.2.1
def ziW (n:Nat) (s:List pair) (t7:Int) (t8:Int):Bool×(Int⊕Unit):=zN (zcs) (.inl default) n (s,(),t7,t8,()) ()
def zeg (r:Int⊕Unit):LTree ty:=.ite (isL r) (.done .ret [.lit (.int .i64 (getL r))] []) (.done (.exit 0) [] [])
def zev:LL ty ttTslicesIndexFuncLrelationpairrelationpairfi0:=za (lSl 147) (za (lFn 106 (zy)) (za (lInt .i64) (za (lInt .i64) zy)))
def zeq:BL ty (Unit):=bNil
def zek (x:ttTslicesIndexFuncLrelationpairrelationpairfi0) (y:Unit):Nat:=(x.1.length+Int.toNat x.2.2.1+Int.toNat x.2.2.2.1+1000)
def zeu:Cx ty:=mkCx base 19 [(106,ziA)] [] [(2,[(0,.keep),(1,.keep),(7,.keep),(8,.keep)])] [(2,1,[]),(2,0,[(4,.keep)])] [(2,spW zev zeq (zcs) (.inl default) zeg zek)] []
theorem ziM:zZ zeu (lp (body Tryz.f135) 0):=zP (id:=2) (V:=zev) (B:=zeq) (W:=zcs) (z:=.inl default) (tr:=zeg) (m:=zek)
def zeL (s:List pair):Wy0 (Int):=.bn (ziW (s.length+(Int.ofNat s.length).toNat +Int.toNat 0+1000) s (Int.ofNat s.length) 0) fun r2=>.i (isL r2) (.k (getL r2)) (.k (-1:Int))
def zcL (s:List pair):Bool×Int:=(zeL s).fin default
def zel (r:Int):ARes ty:=⟨[.pure (.lit (.int .i64 r))],[]⟩
def zeK:AL base (List pair×Unit×Unit):=zg (zh (vSl 147)) (zg (zh (vFn 106 vNil)) aNil)
def zd7:Ab.Spec ty:=zl zeK fun x=>((zcL x.1).1,zel (zcL x.1).2)
theorem zih:Sound Tryz.prog base 135 zd7:=
 zt (cx':=zeu) zG zn zD (zw ⟨zkJ,trivial⟩) Tryz.call135 Tryz.func135 (c:=body Tryz.f135) (by kernel_rfl) (zi (l:=[lp (body Tryz.f135) 0]) (by kernel_rfl) ⟨ziM,trivial⟩) (sg:=⟨[.pure],[]⟩) (A:=zeK) (res:=zel) (W:=fun x=>zeL x.1) (z:=default)
def zik:Cx ty:=mkCx base 9 [(106,ziA),(135,zd7)] [] [] [] [] []
def zeb (s:List pair):Wy0 (Bool):=.bn (zcL s) fun r0=>.k (decide (r0≥0))
def zcy (s:List pair):Bool×Bool:=(zeb s).fin default
def zdL (r:Bool):ARes ty:=⟨[.pure (.lit (.bool r))],[]⟩
def zea:AL base (List pair×Unit×Unit):=zg (zh (vSl 147)) (zg (zh (vFn 106 vNil)) aNil)
def zdw:Ab.Spec ty:=zl zea fun x=>((zcy x.1).1,zdL (zcy x.1).2)
theorem zhS:Sound Tryz.prog base 104 zdw:=
 zt (cx':=zik) zG zn zD (zw ⟨zkJ,zih,trivial⟩) Tryz.call104 Tryz.func104 (c:=body Tryz.f104) (by kernel_rfl) (zi (l:=[]) (by kernel_rfl) trivial) (sg:=⟨[.pure],[]⟩) (A:=zea) (res:=zdL) (W:=fun x=>zeb x.1) (z:=default)
def zDl:Cx ty:=mkCx base 17 [(104,zdw),(105,zuO),(106,ziA)] [] [] [] [] []
def zwY (l:List Column) (row:List Value):Wy0 (Bool):=.i (Int.ofNat l.length==Int.ofNat row.length) (.bn (zv6 l row) fun r1=>.bn (zcy r1) fun r0=>.k (!r0)) (.k false)
def zux (l:List Column) (row:List Value):Bool×Bool:=(zwY l row).fin default
def zuJ (r:Bool):ARes ty:=⟨[.pure (.lit (.bool r))],[]⟩
def zw1:AL base (List Column×List Value×Unit):=zg (zh (vSl 67)) (zg (zh (vSl 40)) aNil)
def zua:Ab.Spec ty:=zl zw1 fun x=>((zux x.1 x.2.1).1,zuJ (zux x.1 x.2.1).2)
theorem zAT:Sound Tryz.prog base 68 zua:=
 zt (cx':=zDl) zG zn zD (zw ⟨zhS,zA6,zkJ,trivial⟩) Tryz.call68 Tryz.func68 (c:=body Tryz.f68) (by kernel_rfl) (zi (l:=[]) (by kernel_rfl) trivial) (sg:=⟨[.pure],[]⟩) (A:=zw1) (res:=zuJ) (W:=fun x=>zwY x.1 x.2.1) (z:=default)
def zEI:Cx ty:=mkCx base 2 [] [] [] [] [] []
def zAk:Wy0 (List ByteArray):=.k [ByteArray.mk #[(73:UInt8),(78:UInt8),(84:UInt8),(69:UInt8),(71:UInt8),(69:UInt8),(82:UInt8)],ByteArray.mk #[(84:UInt8),(69:UInt8),(88:UInt8),(84:UInt8)],ByteArray.mk #[(66:UInt8),(79:UInt8),(79:UInt8),(76:UInt8),(69:UInt8),(65:UInt8),(78:UInt8)]]
def ztA:Bool×List ByteArray:=(zAk).fin default
def zxr (r:List ByteArray):ARes ty:=⟨[.own 9 r],[]⟩
def zAq:AL base (Unit):=aNil
def zws:Ab.Spec ty:=zl zAq fun x=>((ztA ).1,zxr (ztA ).2)
theorem zCk:Sound Tryz.prog base 134 zws:=
 zt (cx':=zEI) zG zn zD (zw trivial) Tryz.call134 Tryz.func134 (c:=body Tryz.f134) (by kernel_rfl) (zi (l:=[]) (by kernel_rfl) trivial) (sg:=⟨[.own 9],[]⟩) (A:=zAq) (res:=zxr) (W:=fun x=>zAk ) (z:=default)
def zCt:Cx ty:=mkCx base 13 [(134,zws)] [] [] [] [] []
def zwq (kind:Int):Wy0 (ByteArray):=.i (decide (kind<0)) (.k (ByteArray.mk #[])) (.i (decide (kind>2)) (.k (ByteArray.mk #[])) (.i (decide (0≤kind)&&decide (kind<Int.ofNat ztA.2.length)) (.k (ztA.2.getD kind.toNat default)) .d))
def zth (kind:Int):Bool×ByteArray:=(zwq kind).fin default
def ztK (r:ByteArray):ARes ty:=⟨[.pure (.lit (.string r))],[]⟩
def zwl:AL base (Int×Unit):=zg (zh (vInt .i64)) aNil
def zsY:Ab.Spec ty:=zl zwl fun x=>((zth x.1).1,ztK (zth x.1).2)
theorem zzA:Sound Tryz.prog base 103 zsY:=
 zt (cx':=zCt) zG zn zD (zw ⟨zCk,trivial⟩) Tryz.call103 Tryz.func103 (c:=body Tryz.f103) (by kernel_rfl) (zi (l:=[]) (by kernel_rfl) trivial) (sg:=⟨[.pure],[]⟩) (A:=zwl) (res:=ztK) (W:=fun x=>zwq x.1) (z:=default)
def ztU:Cx ty:=mkCx base 7 [(103,zsY)] [] [] [] [] []
def zmN (c:Column):Wy0 (Bool):=.bn (zth c.Type_) fun r0=>.k (r0.toList==(ByteArray.mk #[]).toList)
def zjL (c:Column):Bool×Bool:=(zmN c).fin default
def zlC (r:Bool):ARes ty:=⟨[.pure (.lit (.bool r))],[]⟩
def zmS:AL base (Column×Unit):=zg (zh (vAgg 67)) aNil
def ze9:Ab.Spec ty:=zl zmS fun x=>((zjL x.1).1,zlC (zjL x.1).2)
theorem zhg:Sound Tryz.prog base 102 ze9:=
 zt (cx':=ztU) zG zn zD (zw ⟨zzA,trivial⟩) Tryz.call102 Tryz.func102 (c:=body Tryz.f102) (by kernel_rfl) (zi (l:=[]) (by kernel_rfl) trivial) (sg:=⟨[.pure],[]⟩) (A:=zmS) (res:=zlC) (W:=fun x=>zmN x.1) (z:=default)
abbrev ttTslicesIndexFuncLapiColumnapiColumnvc0:=List Column×Unit×Int×Int×Unit
def zkz (s:List Column) (t7:Int) (t8:Int):Wy ttTslicesIndexFuncLapiColumnapiColumnvc0 (Unit) (Int⊕Unit):=.i (decide (t8<t7)) (.i (decide (0≤t8)&&decide (t8<Int.ofNat s.length)) (.bn (zjL (s.getD t8.toNat default)) fun r0=>.i (r0) (.k (.inl t8)) (.h (s,(),t7,(IntKind.i64.wrap (t8+1)),()) ())) .d) (.k (.inr ()))
def zda (x:ttTslicesIndexFuncLapiColumnapiColumnvc0) (y:Unit):Wy ttTslicesIndexFuncLapiColumnapiColumnvc0 (Unit) (Int⊕Unit):=zkz x.1 x.2.2.1 x.2.2.2.1
def zkr (n:Nat) (s:List Column) (t7:Int) (t8:Int):Bool×(Int⊕Unit):=zN (zda) (.inl default) n (s,(),t7,t8,()) ()
def zfZ (r:Int⊕Unit):LTree ty:=.ite (isL r) (.done .ret [.lit (.int .i64 (getL r))] []) (.done (.exit 0) [] [])
def zf9:LL ty ttTslicesIndexFuncLapiColumnapiColumnvc0:=za (lSl 67) (za (lFn 102 (zy)) (za (lInt .i64) (za (lInt .i64) zy)))
def zgo:BL ty (Unit):=bNil
def zf3 (x:ttTslicesIndexFuncLapiColumnapiColumnvc0) (y:Unit):Nat:=(x.1.length+Int.toNat x.2.2.1+Int.toNat x.2.2.2.1+1000)
def zgn:Cx ty:=mkCx base 19 [(102,ze9)] [] [(2,[(0,.keep),(1,.keep),(7,.keep),(8,.keep)])] [(2,1,[]),(2,0,[(4,.keep)])] [(2,spW zf9 zgo (zda) (.inl default) zfZ zf3)] []
theorem zke:zZ zgn (lp (body Tryz.f133) 0):=zP (id:=2) (V:=zf9) (B:=zgo) (W:=zda) (z:=.inl default) (tr:=zfZ) (m:=zf3)
def zgF (s:List Column):Wy0 (Int):=.bn (zkr (s.length+(Int.ofNat s.length).toNat +Int.toNat 0+1000) s (Int.ofNat s.length) 0) fun r2=>.i (isL r2) (.k (getL r2)) (.k (-1:Int))
def zdH (s:List Column):Bool×Int:=(zgF s).fin default
def zf2 (r:Int):ARes ty:=⟨[.pure (.lit (.int .i64 r))],[]⟩
def zgv:AL base (List Column×Unit×Unit):=zg (zh (vSl 67)) (zg (zh (vFn 102 vNil)) aNil)
def zfz:Ab.Spec ty:=zl zgv fun x=>((zdH x.1).1,zf2 (zdH x.1).2)
theorem zjW:Sound Tryz.prog base 133 zfz:=
 zt (cx':=zgn) zG zn zD (zw ⟨zhg,trivial⟩) Tryz.call133 Tryz.func133 (c:=body Tryz.f133) (by kernel_rfl) (zi (l:=[lp (body Tryz.f133) 0]) (by kernel_rfl) ⟨zke,trivial⟩) (sg:=⟨[.pure],[]⟩) (A:=zgv) (res:=zf2) (W:=fun x=>zgF x.1) (z:=default)
def zjV:Cx ty:=mkCx base 9 [(102,ze9),(133,zfz)] [] [] [] [] []
def zfC (s:List Column):Wy0 (Bool):=.bn (zdH s) fun r0=>.k (decide (r0≥0))
def zc9 (s:List Column):Bool×Bool:=(zfC s).fin default
def ze6 (r:Bool):ARes ty:=⟨[.pure (.lit (.bool r))],[]⟩
def zfH:AL base (List Column×Unit×Unit):=zg (zh (vSl 67)) (zg (zh (vFn 102 vNil)) aNil)
def zeV:Ab.Spec ty:=zl zfH fun x=>((zc9 x.1).1,ze6 (zc9 x.1).2)
theorem zi1:Sound Tryz.prog base 101 zeV:=
 zt (cx':=zjV) zG zn zD (zw ⟨zhg,zjW,trivial⟩) Tryz.call101 Tryz.func101 (c:=body Tryz.f101) (by kernel_rfl) (zi (l:=[]) (by kernel_rfl) trivial) (sg:=⟨[.pure],[]⟩) (A:=zfH) (res:=ze6) (W:=fun x=>zfC x.1) (z:=default)
def zwm:Cx ty:=mkCx base 11 [(101,zeV),(102,ze9)] [] [] [] [] []
def zoB (l:List Column):Wy0 (Bool):=.i (decide (Int.ofNat l.length≤16)) (.bn (zc9 l) fun r0=>.k (!r0)) (.k false)
def zli (l:List Column):Bool×Bool:=(zoB l).fin default
def zng (r:Bool):ARes ty:=⟨[.pure (.lit (.bool r))],[]⟩
def zon:AL base (List Column×Unit):=zg (zh (vSl 67)) aNil
def zmK:Ab.Spec ty:=zl zon fun x=>((zli x.1).1,zng (zli x.1).2)
theorem zue:Sound Tryz.prog base 67 zmK:=
 zt (cx':=zwm) zG zn zD (zw ⟨zi1,zhg,trivial⟩) Tryz.call67 Tryz.func67 (c:=body Tryz.f67) (by kernel_rfl) (zi (l:=[]) (by kernel_rfl) trivial) (sg:=⟨[.pure],[]⟩) (A:=zon) (res:=zng) (W:=fun x=>zoB x.1) (z:=default)
def zcM:Cx ty:={ base with nt:=8 }
def zfO (s:List Column):Bool×List Column:=(decide (s.length*24≤zds),s)
def zhp:Ab.Spec ty:=zl (cx:=base) (zg (zh (vSl 67)) aNil) fun x=>((zfO x.1).1,⟨[.own 67 (zfO x.1).2],[]⟩)
theorem zmU:zgI zcM Tryz.f75 (body Tryz.f75) ⟨[.own 67],[]⟩ [.pure (.lit (.slice none 0 0))]=some ⟨[.own 67 []],[]⟩:=by kernel_rfl
theorem zlG (p:Addr) (c:Nat):zgI zcM Tryz.f75 (body Tryz.f75) ⟨[.own 67],[]⟩ [.pure (.lit (.slice (some p) 0 c))]=some ⟨[.own 67 []],[]⟩:=by kernel_rfl
theorem zmx (l:List Column):zgI zcM Tryz.f75 (body Tryz.f75) ⟨[.own 67],[]⟩ [.pure (.sl 67 l)]=bif !l.isEmpty then bif decide ((([]:List (ty 67)).length+l.length)*24≤zds) then some ⟨[.own 67 l],[]⟩ else none else none:=by kernel_rfl
theorem zlF:Sound Tryz.prog base 75 zhp:=
 zxI (cx':=zcM) (bytes:=24) zG zn ⟨⟨rfl,rfl,rfl,rfl,rfl,rfl⟩,rfl⟩ (fun g s h=>by cases h) Tryz.call75 Tryz.func75 (c:=body Tryz.f75) (by kernel_rfl) (zi (l:=[]) (by kernel_rfl) trivial) zmU zlG zmx (by kernel_rfl)
def zd6:Cx ty:={ base with nt:=8 }
def zhG (s:List Row):Bool×List Row:=(decide (s.length*48≤zds),s)
def ziU:Ab.Spec ty:=zl (cx:=base) (zg (zh (vSl 38)) aNil) fun x=>((zhG x.1).1,⟨[.own 38 (zhG x.1).2],[]⟩)
theorem zpE:zgI zd6 Tryz.f71 (body Tryz.f71) ⟨[.own 38],[]⟩ [.pure (.lit (.slice none 0 0))]=some ⟨[.own 38 []],[]⟩:=by kernel_rfl
theorem zn9 (p:Addr) (c:Nat):zgI zd6 Tryz.f71 (body Tryz.f71) ⟨[.own 38],[]⟩ [.pure (.lit (.slice (some p) 0 c))]=some ⟨[.own 38 []],[]⟩:=by kernel_rfl
theorem zoR (l:List Row):zgI zd6 Tryz.f71 (body Tryz.f71) ⟨[.own 38],[]⟩ [.pure (.sl 38 l)]=bif !l.isEmpty then bif decide ((([]:List (ty 38)).length+l.length)*48≤zds) then some ⟨[.own 38 l],[]⟩ else none else none:=by kernel_rfl
theorem zof:Sound Tryz.prog base 71 ziU:=
 zxI (cx':=zd6) (bytes:=48) zG zn ⟨⟨rfl,rfl,rfl,rfl,rfl,rfl⟩,rfl⟩ (fun g s h=>by cases h) Tryz.call71 Tryz.func71 (c:=body Tryz.f71) (by kernel_rfl) (zi (l:=[]) (by kernel_rfl) trivial) zpE zn9 zoR (by kernel_rfl)
end Go.Proofs.YtddkaehkimnklaaGreatDoor
end
