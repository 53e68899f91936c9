/- Texts of this claim, joined (the program, its functions in plain words, and what they compute). -/
import Derived.Test.YtddkaehkimnklaaGreatDoorGC1
import Derived.Test.YtddkaehkimnklaaGreatDoorGA3
import Derived.Test.YtddkaehkimnklaaGreatDoorGC2
set_option autoImplicit false
set_option linter.unusedVariables false
set_option linter.unusedSectionVars false
set_option linter.unusedSimpArgs false
set_option maxRecDepth 1000000
set_option maxHeartbeats 0
noncomputable section
namespace Go.Proofs.YtddkaehkimnklaaGreatDoor
open Go Go.Ab
abbrev ttTannotationValid0:=List Term×Unit×List Term×Int×Int×List Factor×Int×Int×Unit
abbrev ttTannotationValid1:=Bool⊕(List Term×List Term×Int×Int)
abbrev ttTannotationValid2:=List Term×List Term×Int×Int×Unit
def zxA (zq:Atom→Bool×Bool) (a:List Term) (t10:List Term) (t11:Int) (t12:Int) (t40:List Factor) (t41:Int) (t42:Int) (t:Term):Wy ttTannotationValid0 (Term×Unit) ttTannotationValid1:=.i (decide (t42<t41)) (.i (decide (0≤t42)&&decide (t42<Int.ofNat t40.length)) (.i (decide ((t40.getD t42.toNat default).Exp<1)) (.k (.inl false)) (.bn (ziH (Atom.mk (t40.getD t42.toNat default).Atom.Kind (t40.getD t42.toNat default).Atom.Row (t40.getD t42.toNat default).Atom.Args (t40.getD t42.toNat default).Atom.Func (t40.getD t42.toNat default).Atom.Items (t40.getD t42.toNat default).Atom.Op (t40.getD t42.toNat default).Atom.Bound)) fun r6=>.i (r6) (.i ((t40.getD t42.toNat default).Exp != 1) (.k (.inl false)) (.i (decide (t42>0)) (.i (decide (0≤IntKind.i64.wrap (t42 - 1))&&decide (IntKind.i64.wrap (t42 - 1)<Int.ofNat t.Factors.length)) (.bn (zkf (Atom.mk (t.Factors.getD (IntKind.i64.wrap (t42 - 1)).toNat default).Atom.Kind (t.Factors.getD (IntKind.i64.wrap (t42 - 1)).toNat default).Atom.Row (t.Factors.getD (IntKind.i64.wrap (t42 - 1)).toNat default).Atom.Args (t.Factors.getD (IntKind.i64.wrap (t42 - 1)).toNat default).Atom.Func (t.Factors.getD (IntKind.i64.wrap (t42 - 1)).toNat default).Atom.Items (t.Factors.getD (IntKind.i64.wrap (t42 - 1)).toNat default).Atom.Op (t.Factors.getD (IntKind.i64.wrap (t42 - 1)).toNat default).Atom.Bound) (Atom.mk (t40.getD t42.toNat default).Atom.Kind (t40.getD t42.toNat default).Atom.Row (t40.getD t42.toNat default).Atom.Args (t40.getD t42.toNat default).Atom.Func (t40.getD t42.toNat default).Atom.Items (t40.getD t42.toNat default).Atom.Op (t40.getD t42.toNat default).Atom.Bound)) fun r1=>.i (decide (r1≥0)) (.k (.inl false)) (.bn (zq (Atom.mk (t40.getD t42.toNat default).Atom.Kind (t40.getD t42.toNat default).Atom.Row (t40.getD t42.toNat default).Atom.Args (t40.getD t42.toNat default).Atom.Func (t40.getD t42.toNat default).Atom.Items (t40.getD t42.toNat default).Atom.Op (t40.getD t42.toNat default).Atom.Bound)) fun r0=>.i (!r0) (.k (.inl false)) (.h (a,(),t10,t11,t12,t40,t41,(IntKind.i64.wrap (t42+1)),()) (t,())))) .d) (.bn (zq (Atom.mk (t40.getD t42.toNat default).Atom.Kind (t40.getD t42.toNat default).Atom.Row (t40.getD t42.toNat default).Atom.Args (t40.getD t42.toNat default).Atom.Func (t40.getD t42.toNat default).Atom.Items (t40.getD t42.toNat default).Atom.Op (t40.getD t42.toNat default).Atom.Bound)) fun r2=>.i (!r2) (.k (.inl false)) (.h (a,(),t10,t11,t12,t40,t41,(IntKind.i64.wrap (t42+1)),()) (t,()))))) (.i (decide (t42>0)) (.i (decide (0≤IntKind.i64.wrap (t42 - 1))&&decide (IntKind.i64.wrap (t42 - 1)<Int.ofNat t.Factors.length)) (.bn (zkf (Atom.mk (t.Factors.getD (IntKind.i64.wrap (t42 - 1)).toNat default).Atom.Kind (t.Factors.getD (IntKind.i64.wrap (t42 - 1)).toNat default).Atom.Row (t.Factors.getD (IntKind.i64.wrap (t42 - 1)).toNat default).Atom.Args (t.Factors.getD (IntKind.i64.wrap (t42 - 1)).toNat default).Atom.Func (t.Factors.getD (IntKind.i64.wrap (t42 - 1)).toNat default).Atom.Items (t.Factors.getD (IntKind.i64.wrap (t42 - 1)).toNat default).Atom.Op (t.Factors.getD (IntKind.i64.wrap (t42 - 1)).toNat default).Atom.Bound) (Atom.mk (t40.getD t42.toNat default).Atom.Kind (t40.getD t42.toNat default).Atom.Row (t40.getD t42.toNat default).Atom.Args (t40.getD t42.toNat default).Atom.Func (t40.getD t42.toNat default).Atom.Items (t40.getD t42.toNat default).Atom.Op (t40.getD t42.toNat default).Atom.Bound)) fun r4=>.i (decide (r4≥0)) (.k (.inl false)) (.bn (zq (Atom.mk (t40.getD t42.toNat default).Atom.Kind (t40.getD t42.toNat default).Atom.Row (t40.getD t42.toNat default).Atom.Args (t40.getD t42.toNat default).Atom.Func (t40.getD t42.toNat default).Atom.Items (t40.getD t42.toNat default).Atom.Op (t40.getD t42.toNat default).Atom.Bound)) fun r3=>.i (!r3) (.k (.inl false)) (.h (a,(),t10,t11,t12,t40,t41,(IntKind.i64.wrap (t42+1)),()) (t,())))) .d) (.bn (zq (Atom.mk (t40.getD t42.toNat default).Atom.Kind (t40.getD t42.toNat default).Atom.Row (t40.getD t42.toNat default).Atom.Args (t40.getD t42.toNat default).Atom.Func (t40.getD t42.toNat default).Atom.Items (t40.getD t42.toNat default).Atom.Op (t40.getD t42.toNat default).Atom.Bound)) fun r5=>.i (!r5) (.k (.inl false)) (.h (a,(),t10,t11,t12,t40,t41,(IntKind.i64.wrap (t42+1)),()) (t,())))))) .d) (.k (.inr (a,t10,t11,t12)))
def zlA (zq:Atom→Bool×Bool) (x:ttTannotationValid0) (y:Term×Unit):Wy ttTannotationValid0 (Term×Unit) ttTannotationValid1:=zxA zq x.1 x.2.2.1 x.2.2.2.1 x.2.2.2.2.1 x.2.2.2.2.2.1 x.2.2.2.2.2.2.1 x.2.2.2.2.2.2.2.1 y.1
def zqQ (zq:Atom→Bool×Bool) (n:Nat) (a:List Term) (t10:List Term) (t11:Int) (t12:Int) (t40:List Factor) (t41:Int) (t42:Int) (t:Term):Bool×ttTannotationValid1:=zO (zlA zq) (.inl default) n (a,(),t10,t11,t12,t40,t41,t42,()) (t,())
def zpv (r:ttTannotationValid1):LTree ty:=.ite (isL r) (.done .ret [.lit (.bool (getL r))] []) (.done (.exit 2) [.sl 152 (getR r).1,.sl 152 (getR r).2.1,.lit (.int .i64 (getR r).2.2.1),.lit (.int .i64 (getR r).2.2.2)] [])
def zql:LL ty ttTannotationValid0:=za (lSl 152) (za (zcF 340 0) (za (lSl 152) (za (lInt .i64) (za (lInt .i64) (za (lSl 160) (za (lInt .i64) (za (lInt .i64) zF)))))))
def zqt:BL ty (Term×Unit):=bBox (zex (fun x=>(⟨x.1,x.2.1⟩:Term)) (fun x=>(x.Coeff,x.Factors,())) (fun _=>rfl) (za (lInt .i64) (za (lSl 160) zF))) false (bNil)
def zx3 (zq:Atom→Bool×Bool) (a:List Term) (t10:List Term) (t11:Int) (t12:Int):Wy ttTannotationValid2 (Unit) (Bool⊕Unit):=.i (decide (t12<t11)) (.i (decide (0≤t12)&&decide (t12<Int.ofNat t10.length)) (.i (decide ((t10.getD t12.toNat default).Coeff<1)) (.k (.inl false)) (.i (decide ((t10.getD t12.toNat default).Coeff>1152921504606846976)) (.k (.inl false)) (.i (decide (t12>0)) (.i (decide (0≤IntKind.i64.wrap (t12 - 1))&&decide (IntKind.i64.wrap (t12 - 1)<Int.ofNat a.length)) (.bn (zoY (a.getD (IntKind.i64.wrap (t12 - 1)).toNat default) (t10.getD t12.toNat default)) fun r15=>.i (decide (r15≥0)) (.k (.inl false)) (.bn (zqQ zq (a.length+t10.length+t11.toNat +t12.toNat +(t10.getD t12.toNat default).Factors.length+(Int.ofNat (t10.getD t12.toNat default).Factors.length).toNat +Int.toNat 0+(t10.getD t12.toNat default).Factors.length+1000) a t10 t11 t12 (t10.getD t12.toNat default).Factors (Int.ofNat (t10.getD t12.toNat default).Factors.length) 0 (t10.getD t12.toNat default)) fun r14=>.i (isL r14) (.k (.inl (getL r14))) (.h ((getR r14).1,(getR r14).2.1,(getR r14).2.2.1,(IntKind.i64.wrap ((getR r14).2.2.2+1)),()) ()))) .d) (.bn (zqQ zq (a.length+t10.length+t11.toNat +t12.toNat +(t10.getD t12.toNat default).Factors.length+(Int.ofNat (t10.getD t12.toNat default).Factors.length).toNat +Int.toNat 0+(t10.getD t12.toNat default).Factors.length+1000) a t10 t11 t12 (t10.getD t12.toNat default).Factors (Int.ofNat (t10.getD t12.toNat default).Factors.length) 0 (t10.getD t12.toNat default)) fun r16=>.i (isL r16) (.k (.inl (getL r16))) (.h ((getR r16).1,(getR r16).2.1,(getR r16).2.2.1,(IntKind.i64.wrap ((getR r16).2.2.2+1)),()) ()))))) .d) (.k (.inr ()))
def zlD (zq:Atom→Bool×Bool) (x:ttTannotationValid2) (y:Unit):Wy ttTannotationValid2 (Unit) (Bool⊕Unit):=zx3 zq x.1 x.2.1 x.2.2.1 x.2.2.2.1
def zxB (zq:Atom→Bool×Bool) (n:Nat) (a:List Term) (t10:List Term) (t11:Int) (t12:Int):Bool×(Bool⊕Unit):=zO (zlD zq) (.inl default) n (a,t10,t11,t12,()) ()
def zpq (r:Bool⊕Unit):LTree ty:=.ite (isL r) (.done .ret [.lit (.bool (getL r))] []) (.done (.exit 0) [] [])
def zqP:LL ty ttTannotationValid2:=za (lSl 152) (za (lSl 152) (za (lInt .i64) (za (lInt .i64) zF)))
def zqA:BL ty (Unit):=bNil
def zpF (x:ttTannotationValid0) (y:Term×Unit):Nat:=(x.1.length+x.2.2.1.length+Int.toNat x.2.2.2.1+Int.toNat x.2.2.2.2.1+x.2.2.2.2.2.1.length+Int.toNat x.2.2.2.2.2.2.1+Int.toNat x.2.2.2.2.2.2.2.1+y.1.Factors.length+1000)
def zpW (x:ttTannotationValid2) (y:Unit):Nat:=(x.1.length+x.2.1.length+Int.toNat x.2.2.1+Int.toNat x.2.2.2.1+1000)
def zlt (zq:Atom→Bool×Bool):Cx ty:=mkCx base 85 [(107,zps),(108,annotation_compareLists_spec),(109,zi0),(110,annotation_compareAtoms_spec),(111,(zii zq))] [] [(4,[(0,.keep),(10,.keep),(11,.keep),(12,.keep)]),(9,[(0,.keep),(4,.keep),(10,.keep),(11,.keep),(12,.keep),(40,.keep),(41,.keep),(42,.keep)])] [(4,1,[]),(4,0,[(2,.keep)]),(9,3,[(0,.keep),(10,.keep),(11,.keep),(12,.keep)]),(9,0,[(2,.keep)])] [(9,spW zql zqt (zlA zq) (.inl default) zpv zpF),(4,spW zqP zqA (zlD zq) (.inl default) zpq zpW)] []
theorem zwZ (zq:Atom→Bool×Bool):zX (zlt zq) (lp (body Tryz.f69) 1):=zN (id:=9) (V:=zql) (B:=zqt) (W:=zlA zq) (z:=.inl default) (tr:=zpv) (m:=zpF)
theorem zxp (zq:Atom→Bool×Bool):zX (zlt zq) (lp (body Tryz.f69) 0):=zN (id:=4) (V:=zqP) (B:=zqA) (W:=zlD zq) (z:=.inl default) (tr:=zpq) (m:=zpW)
def zrp (zq:Atom→Bool×Bool) (a:List Term):Wy0 (Bool):=.bn (zo4 a) fun r21=>.i (!r21) (.k false) (.bn (zxB zq (a.length+a.length+(Int.ofNat a.length).toNat +Int.toNat 0+1000) a a (Int.ofNat a.length) 0) fun r20=>.i (isL r20) (.k (getL r20)) (.k true))
def zta (zq:Atom→Bool×Bool) (a:List Term):Bool×Bool:=(zrp zq a).fin default
theorem zvg (zq:Atom→Bool×Bool) (zvd:Sound Tryz.prog base 111 (zii zq)):Sound Tryz.prog base 69 (zfA (zta zq)):=
 zy (cx':=(zlt zq)) zH zo zD (zB ⟨zv5,zr7,zmk,zr5,zvd,trivial⟩) Tryz.call69 Tryz.func69 (c:=body Tryz.f69) (by kernel_rfl) (zi (l:=[lp (body Tryz.f69) 0,lp (body Tryz.f69) 1]) (by kernel_rfl) ⟨zxp zq,zwZ zq,trivial⟩) (sg:=⟨[.pure],[]⟩) (A:=ztG) (res:=zrL) (W:=fun x=>zrp zq x.1) (z:=default)
def zzO:Cx ty:=mkCx base 9 [(145,annotation_Compare_spec)] [] [] [] [] []
def ztq (a:List Term) (b:List Term):Wy0 (Bool):=.bn (ztu a b) fun r0=>.k (r0==0)
def zp8 (a:List Term) (b:List Term):Bool×Bool:=(ztq a b).fin default
def zrG (r:Bool):ARes ty:=⟨[.pure (.lit (.bool r))],[]⟩
def ztg:AL base (List Term×List Term×Unit):=zf (zg (vSl 152)) (zf (zg (vSl 152)) aNil)
def zqe:Ab.Spec ty:=zn ztg fun x=>((zp8 x.1 x.2.1).1,zrG (zp8 x.1 x.2.1).2)
theorem zw8:Sound Tryz.prog base 151 zqe:=
 zy (cx':=zzO) zH zo zD (zB ⟨zu2,trivial⟩) Tryz.call151 Tryz.func151 (c:=body Tryz.f151) (by kernel_rfl) (zi (l:=[]) (by kernel_rfl) trivial) (sg:=⟨[.pure],[]⟩) (A:=ztg) (res:=zrG) (W:=fun x=>ztq x.1 x.2.1) (z:=default)
def zu7:Cx ty:=mkCx base 27 [(83,zg5)] [] [] [] [] []
def zoX (w:Weighted) (p1:Value) (p2:Int):Wy0 (Bool):=.bn (zgH w.Value) fun r0=>.i (!r0) (.k true) (.i (w.Value.Kind != p1.Kind) (.k true) (.i (p2==0) (.k (w.Value.Int != 1)) (.k false)))
def zlo (w:Weighted) (p1:Value) (p2:Int):Bool×Bool:=(zoX w p1 p2).fin default
def znh (r:Bool):ARes ty:=⟨[.pure (.lit (.bool r))],[]⟩
def zoM:AL base (Weighted×Value×(Int×Unit)×Unit):=zf (zg (vAgg 182)) (zf (zg (zuR 40)) (zf (zg (vBox (zrT (vInt .i64) vNil))) aNil))
def zgU:Ab.Spec ty:=zn zoM fun x=>((zlo x.1 x.2.1 x.2.2.1.1).1,znh (zlo x.1 x.2.1 x.2.2.1.1).2)
theorem zit:Sound Tryz.prog base 202 zgU:=
 zy (cx':=zu7) zH zo zD (zB ⟨zhz,trivial⟩) Tryz.call202 Tryz.func202 (c:=body Tryz.f202) (by kernel_rfl) (zi (l:=[]) (by kernel_rfl) trivial) (sg:=⟨[.pure],[]⟩) (A:=zoM) (res:=znh) (W:=fun x=>zoX x.1 x.2.1 x.2.2.1.1) (z:=default)
abbrev ttTslicesIndexFuncLapiWeightedapiWeightedfi0:=List Weighted×(Value×(Int×Unit)×Unit)×Int×Int×Unit
def zjG (s:List Weighted) (f_0:Value) (f_1:Int) (t7:Int) (t8:Int):Wy ttTslicesIndexFuncLapiWeightedapiWeightedfi0 (Unit) (Int⊕Unit):=.i (decide (t8<t7)) (.i (decide (0≤t8)&&decide (t8<Int.ofNat s.length)) (.bn (zlo (s.getD t8.toNat default) f_0 f_1) fun r0=>.i (r0) (.k (.inl t8)) (.h (s,(f_0,(f_1,()),()),t7,(IntKind.i64.wrap (t8+1)),()) ())) .d) (.k (.inr ()))
def zcM (x:ttTslicesIndexFuncLapiWeightedapiWeightedfi0) (y:Unit):Wy ttTslicesIndexFuncLapiWeightedapiWeightedfi0 (Unit) (Int⊕Unit):=zjG x.1 x.2.1.1 x.2.1.2.1.1 x.2.2.1 x.2.2.2.1
def zjI (n:Nat) (s:List Weighted) (f_0:Value) (f_1:Int) (t7:Int) (t8:Int):Bool×(Int⊕Unit):=zO (zcM) (.inl default) n (s,(f_0,(f_1,()),()),t7,t8,()) ()
def zeR (r:Int⊕Unit):LTree ty:=.ite (isL r) (.done .ret [.lit (.int .i64 (getL r))] []) (.done (.exit 0) [] [])
def zff:LL ty ttTslicesIndexFuncLapiWeightedapiWeightedfi0:=za (lSl 182) (za (lFn 202 (za (zCd (zex (fun x=>(⟨x.1,x.2.1,x.2.2.1⟩:Value)) (fun x=>(x.Kind,x.Int,x.Text,())) (fun _=>rfl) (za (lInt .i64) (za (lInt .i64) (za lStr zF)))) 0) (za (zCd (za (lInt .i64) zF) 0) zF))) (za (lInt .i64) (za (lInt .i64) zF)))
def zfh:BL ty (Unit):=bNil
def zeW (x:ttTslicesIndexFuncLapiWeightedapiWeightedfi0) (y:Unit):Nat:=(x.1.length+Int.toNat x.2.1.2.1.1+Int.toNat x.2.2.1+Int.toNat x.2.2.2.1+1000)
def zfj:Cx ty:=mkCx base 19 [(202,zgU)] [] [(2,[(0,.keep),(1,.keep),(7,.keep),(8,.keep)])] [(2,1,[]),(2,0,[(4,.keep)])] [(2,spW zff zfh (zcM) (.inl default) zeR zeW)] []
theorem zjo:zX zfj (lp (body Tryz.f201) 0):=zN (id:=2) (V:=zff) (B:=zfh) (W:=zcM) (z:=.inl default) (tr:=zeR) (m:=zeW)
def zfo (s:List Weighted) (f_0:Value) (f_1:Int):Wy0 (Int):=.bn (zjI (s.length+f_1.toNat +(Int.ofNat s.length).toNat +Int.toNat 0+1000) s f_0 f_1 (Int.ofNat s.length) 0) fun r2=>.i (isL r2) (.k (getL r2)) (.k (-1:Int))
def zc3 (s:List Weighted) (f_0:Value) (f_1:Int):Bool×Int:=(zfo s f_0 f_1).fin default
def zeY (r:Int):ARes ty:=⟨[.pure (.lit (.int .i64 r))],[]⟩
def zfm:AL base (List Weighted×(Value×(Int×Unit)×Unit)×Unit):=zf (zg (vSl 182)) (zf (zg (vFn 202 (zrT (zuR 40) (zrT (vBox (zrT (vInt .i64) vNil)) vNil)))) aNil)
def zeI:Ab.Spec ty:=zn zfm fun x=>((zc3 x.1 x.2.1.1 x.2.1.2.1.1).1,zeY (zc3 x.1 x.2.1.1 x.2.1.2.1.1).2)
theorem zi3:Sound Tryz.prog base 201 zeI:=
 zy (cx':=zfj) zH zo zD (zB ⟨zit,trivial⟩) Tryz.call201 Tryz.func201 (c:=body Tryz.f201) (by kernel_rfl) (zi (l:=[lp (body Tryz.f201) 0]) (by kernel_rfl) ⟨zjo,trivial⟩) (sg:=⟨[.pure],[]⟩) (A:=zfm) (res:=zeY) (W:=fun x=>zfo x.1 x.2.1.1 x.2.1.2.1.1) (z:=default)
def ziS:Cx ty:=mkCx base 9 [(201,zeI),(202,zgU)] [] [] [] [] []
def zeK (s:List Weighted) (f_0:Value) (f_1:Int):Wy0 (Bool):=.bn (zc3 s f_0 f_1) fun r0=>.k (decide (r0≥0))
def zbh (s:List Weighted) (f_0:Value) (f_1:Int):Bool×Bool:=(zeK s f_0 f_1).fin default
def zel (r:Bool):ARes ty:=⟨[.pure (.lit (.bool r))],[]⟩
def zeE:AL base (List Weighted×(Value×(Int×Unit)×Unit)×Unit):=zf (zg (vSl 182)) (zf (zg (vFn 202 (zrT (zuR 40) (zrT (vBox (zrT (vInt .i64) vNil)) vNil)))) aNil)
def zd8:Ab.Spec ty:=zn zeE fun x=>((zbh x.1 x.2.1.1 x.2.1.2.1.1).1,zel (zbh x.1 x.2.1.1 x.2.1.2.1.1).2)
theorem zij:Sound Tryz.prog base 155 zd8:=
 zy (cx':=ziS) zH zo zD (zB ⟨zi3,zit,trivial⟩) Tryz.call155 Tryz.func155 (c:=body Tryz.f155) (by kernel_rfl) (zi (l:=[]) (by kernel_rfl) trivial) (sg:=⟨[.pure],[]⟩) (A:=zeE) (res:=zel) (W:=fun x=>zeK x.1 x.2.1.1 x.2.1.2.1.1) (z:=default)
def zxR:Cx ty:=mkCx base 43 [(83,zg5),(155,zd8),(202,zgU)] [] [] [] [] []
def zrc (fn:Int) (items:List Weighted) (op:Int) (bound:Value):Wy0 (Bool):=.i (decide (fn<0)) (.k false) (.i (decide (fn>3)) (.k false) (.i (decide (op<5)) (.k false) (.i (decide (op>10)) (.k false) (.bn (zgH bound) fun r3=>.i (!r3) (.k false) (.i (fn==0) (.i (bound.Kind != 0) (.k false) (.bn (zbh items bound fn) fun r0=>.k (!r0))) (.i (fn==1) (.i (bound.Kind != 0) (.k false) (.bn (zbh items bound fn) fun r1=>.k (!r1))) (.bn (zbh items bound fn) fun r2=>.k (!r2))))))))
def zoa (fn:Int) (items:List Weighted) (op:Int) (bound:Value):Bool×Bool:=(zrc fn items op bound).fin default
def zpI (r:Bool):ARes ty:=⟨[.pure (.lit (.bool r))],[]⟩
def zrd:AL base (Int×List Weighted×Int×Value×Unit):=zf (zg (vInt .i64)) (zf (zg (vSl 182)) (zf (zg (vInt .i64)) (zf (zg (vAgg 40)) aNil)))
def zoK:Ab.Spec ty:=zn zrd fun x=>((zoa x.1 x.2.1 x.2.2.1 x.2.2.2.1).1,zpI (zoa x.1 x.2.1 x.2.2.1 x.2.2.2.1).2)
theorem zvM:Sound Tryz.prog base 158 zoK:=
 zy (cx':=zxR) zH zo zD (zB ⟨zhz,zij,zit,trivial⟩) Tryz.call158 Tryz.func158 (c:=body Tryz.f158) (by kernel_rfl) (zi (l:=[]) (by kernel_rfl) trivial) (sg:=⟨[.pure],[]⟩) (A:=zrd) (res:=zpI) (W:=fun x=>zrc x.1 x.2.1 x.2.2.1 x.2.2.2.1) (z:=default)
def zsF:Cx ty:=mkCx base 7 [] [] [] [] [] []
def zlO (t:Term):Wy0 (Bool):=.k (Int.ofNat t.Factors.length==0)
def zjq (t:Term):Bool×Bool:=(zlO t).fin default
def zkS (r:Bool):ARes ty:=⟨[.pure (.lit (.bool r))],[]⟩
def zmc:AL base (Term×Unit):=zf (zg (vAgg 152)) aNil
def ze8:Ab.Spec ty:=zn zmc fun x=>((zjq x.1).1,zkS (zjq x.1).2)
theorem zhh:Sound Tryz.prog base 200 ze8:=
 zy (cx':=zsF) zH zo zD (zB trivial) Tryz.call200 Tryz.func200 (c:=body Tryz.f200) (by kernel_rfl) (zi (l:=[]) (by kernel_rfl) trivial) (sg:=⟨[.pure],[]⟩) (A:=zmc) (res:=zkS) (W:=fun x=>zlO x.1) (z:=default)
abbrev ttTslicesIndexFuncapiAnnotationapiTermhc0:=List Term×Unit×Int×Int×Unit
def zkl (s:List Term) (t7:Int) (t8:Int):Wy ttTslicesIndexFuncapiAnnotationapiTermhc0 (Unit) (Int⊕Unit):=.i (decide (t8<t7)) (.i (decide (0≤t8)&&decide (t8<Int.ofNat s.length)) (.i ((zjq (s.getD t8.toNat default)).2) (.k (.inl t8)) (.h (s,(),t7,(IntKind.i64.wrap (t8+1)),()) ())) .d) (.k (.inr ()))
def zc2 (x:ttTslicesIndexFuncapiAnnotationapiTermhc0) (y:Unit):Wy ttTslicesIndexFuncapiAnnotationapiTermhc0 (Unit) (Int⊕Unit):=zkl x.1 x.2.2.1 x.2.2.2.1
def zkb (n:Nat) (s:List Term) (t7:Int) (t8:Int):Bool×(Int⊕Unit):=zO (zc2) (.inl default) n (s,(),t7,t8,()) ()
def zfK (r:Int⊕Unit):LTree ty:=.ite (isL r) (.done .ret [.lit (.int .i64 (getL r))] []) (.done (.exit 0) [] [])
def zf7:LL ty ttTslicesIndexFuncapiAnnotationapiTermhc0:=za (lSl 152) (za (lFn 200 (zF)) (za (lInt .i64) (za (lInt .i64) zF)))
def zf9:BL ty (Unit):=bNil
def zfM (x:ttTslicesIndexFuncapiAnnotationapiTermhc0) (y:Unit):Nat:=(x.1.length+Int.toNat x.2.2.1+Int.toNat x.2.2.2.1+1000)
def zf0:Cx ty:=mkCx base 19 [(200,ze8)] [] [(2,[(0,.keep),(1,.keep),(7,.keep),(8,.keep)])] [(2,1,[]),(2,0,[(4,.keep)])] [(2,spW zf7 zf9 (zc2) (.inl default) zfK zfM)] []
theorem zj7:zX zf0 (lp (body Tryz.f195) 0):=zN (id:=2) (V:=zf7) (B:=zf9) (W:=zc2) (z:=.inl default) (tr:=zfK) (m:=zfM)
def zgm (s:List Term):Wy0 (Int):=.bn (zkb (s.length+(Int.ofNat s.length).toNat +Int.toNat 0+1000) s (Int.ofNat s.length) 0) fun r0=>.i (isL r0) (.k (getL r0)) (.k (-1:Int))
def zds (s:List Term):Bool×Int:=(zgm s).fin default
def zfI (r:Int):ARes ty:=⟨[.pure (.lit (.int .i64 r))],[]⟩
def zgi:AL base (List Term×Unit×Unit):=zf (zg (vSl 152)) (zf (zg (vFn 200 vNil)) aNil)
def zfv:Ab.Spec ty:=zn zgi fun x=>((zds x.1).1,zfI (zds x.1).2)
theorem zjQ:Sound Tryz.prog base 195 zfv:=
 zy (cx':=zf0) zH zo zD (zB ⟨zhh,trivial⟩) Tryz.call195 Tryz.func195 (c:=body Tryz.f195) (by kernel_rfl) (zi (l:=[lp (body Tryz.f195) 0]) (by kernel_rfl) ⟨zj7,trivial⟩) (sg:=⟨[.pure],[]⟩) (A:=zgi) (res:=zfI) (W:=fun x=>zgm x.1) (z:=default)
def zjF:Cx ty:=mkCx base 9 [(195,zfv),(200,ze8)] [] [] [] [] []
def zfr (s:List Term):Wy0 (Bool):=.bn (zds s) fun r0=>.k (decide (r0≥0))
def zc7 (s:List Term):Bool×Bool:=(zfr s).fin default
def zeT (r:Bool):ARes ty:=⟨[.pure (.lit (.bool r))],[]⟩
def zfy:AL base (List Term×Unit×Unit):=zf (zg (vSl 152)) (zf (zg (vFn 200 vNil)) aNil)
def zeB:Ab.Spec ty:=zn zfy fun x=>((zc7 x.1).1,zeT (zc7 x.1).2)
theorem zi1:Sound Tryz.prog base 138 zeB:=
 zy (cx':=zjF) zH zo zD (zB ⟨zjQ,zhh,trivial⟩) Tryz.call138 Tryz.func138 (c:=body Tryz.f138) (by kernel_rfl) (zi (l:=[]) (by kernel_rfl) trivial) (sg:=⟨[.pure],[]⟩) (A:=zfy) (res:=zeT) (W:=fun x=>zfr x.1) (z:=default)
def zuW:Cx ty:=mkCx base 5 [(138,zeB),(200,ze8)] [] [] [] [] []
def zn3 (a:List Term):Wy0 (Bool):=.bn (zc7 a) fun r0=>.k r0
def zkJ (a:List Term):Bool×Bool:=(zn3 a).fin default
def zmQ (r:Bool):ARes ty:=⟨[.pure (.lit (.bool r))],[]⟩
def zoh:AL base (List Term×Unit):=zf (zg (vSl 152)) aNil
def zl4:Ab.Spec ty:=zn zoh fun x=>((zkJ x.1).1,zmQ (zkJ x.1).2)
theorem zs0:Sound Tryz.prog base 154 zl4:=
 zy (cx':=zuW) zH zo zD (zB ⟨zi1,zhh,trivial⟩) Tryz.call154 Tryz.func154 (c:=body Tryz.f154) (by kernel_rfl) (zi (l:=[]) (by kernel_rfl) trivial) (sg:=⟨[.pure],[]⟩) (A:=zoh) (res:=zmQ) (W:=fun x=>zn3 x.1) (z:=default)
def zvf:Cx ty:=mkCx base 14 [] [] [] [] [] []
def zoO (a:List Term):Wy0 (Bool):=.i (Int.ofNat a.length==1) (.i (decide ((0:Int)≤(0:Int))&&decide (0<Int.ofNat a.length)) (.k (Int.ofNat (a.getD (Int.toNat 0) default).Factors.length==0)) .d) (.k false)
def zll (a:List Term):Bool×Bool:=(zoO a).fin default
def znK (r:Bool):ARes ty:=⟨[.pure (.lit (.bool r))],[]⟩
def zoD:AL base (List Term×Unit):=zf (zg (vSl 152)) aNil
def zmP:Ab.Spec ty:=zn zoD fun x=>((zll x.1).1,znK (zll x.1).2)
theorem ztE:Sound Tryz.prog base 152 zmP:=
 zy (cx':=zvf) zH zo zD (zB trivial) Tryz.call152 Tryz.func152 (c:=body Tryz.f152) (by kernel_rfl) (zi (l:=[]) (by kernel_rfl) trivial) (sg:=⟨[.pure],[]⟩) (A:=zoD) (res:=znK) (W:=fun x=>zoO x.1) (z:=default)
def zyQ:Cx ty:=mkCx base 42 [(109,zi0)] [] [] [] [] []
def zsg (a:List Term):Wy0 (Bool):=.i (Int.ofNat a.length != 1) (.k false) (.i (decide ((0:Int)≤(0:Int))&&decide (0<Int.ofNat a.length)) (.i ((a.getD (Int.toNat 0) default).Coeff != 1) (.k false) (.i (decide ((0:Int)≤(0:Int))&&decide (0<Int.ofNat a.length)) (.i (Int.ofNat (a.getD (Int.toNat 0) default).Factors.length != 1) (.k false) (.i (decide ((0:Int)≤(0:Int))&&decide (0<Int.ofNat a.length)) (.i (decide ((0:Int)≤(0:Int))&&decide (0<Int.ofNat (a.getD (Int.toNat 0) default).Factors.length)) (.i (((a.getD (Int.toNat 0) default).Factors.getD (Int.toNat 0) default).Exp==1) (.i (((a.getD (Int.toNat 0) default).Factors.getD (Int.toNat 0) default).Atom.Kind==2) (.k true) (.bn (ziH (Atom.mk ((a.getD (Int.toNat 0) default).Factors.getD (Int.toNat 0) default).Atom.Kind ((a.getD (Int.toNat 0) default).Factors.getD (Int.toNat 0) default).Atom.Row ((a.getD (Int.toNat 0) default).Factors.getD (Int.toNat 0) default).Atom.Args ((a.getD (Int.toNat 0) default).Factors.getD (Int.toNat 0) default).Atom.Func ((a.getD (Int.toNat 0) default).Factors.getD (Int.toNat 0) default).Atom.Items ((a.getD (Int.toNat 0) default).Factors.getD (Int.toNat 0) default).Atom.Op ((a.getD (Int.toNat 0) default).Factors.getD (Int.toNat 0) default).Atom.Bound)) fun r0=>.k r0)) (.k false)) .d) .d)) .d)) .d)
def zo2 (a:List Term):Bool×Bool:=(zsg a).fin default
def zqu (r:Bool):ARes ty:=⟨[.pure (.lit (.bool r))],[]⟩
def zsl:AL base (List Term×Unit):=zf (zg (vSl 152)) aNil
def zpM:Ab.Spec ty:=zn zsl fun x=>((zo2 x.1).1,zqu (zo2 x.1).2)
theorem zv3:Sound Tryz.prog base 153 zpM:=
 zy (cx':=zyQ) zH zo zD (zB ⟨zmk,trivial⟩) Tryz.call153 Tryz.func153 (c:=body Tryz.f153) (by kernel_rfl) (zi (l:=[]) (by kernel_rfl) trivial) (sg:=⟨[.pure],[]⟩) (A:=zsl) (res:=zqu) (W:=fun x=>zsg x.1) (z:=default)
def zCs:Cx ty:=mkCx base 11 [] [] [] [] [] []
def zx7 (id:RowID):Wy0 (Bool):=.i (decide (id.Table≥1)) (.k (decide (id.Seq≥1))) (.k false)
def zvs (id:RowID):Bool×Bool:=(zx7 id).fin default
def zvw (r:Bool):ARes ty:=⟨[.pure (.lit (.bool r))],[]⟩
def zxQ:AL base (RowID×Unit):=zf (zg (vAgg 155)) aNil
def zuv:Ab.Spec ty:=zn zxQ fun x=>((zvs x.1).1,zvw (zvs x.1).2)
theorem zAA:Sound Tryz.prog base 150 zuv:=
 zy (cx':=zCs) zH zo zD (zB trivial) Tryz.call150 Tryz.func150 (c:=body Tryz.f150) (by kernel_rfl) (zi (l:=[]) (by kernel_rfl) trivial) (sg:=⟨[.pure],[]⟩) (A:=zxQ) (res:=zvw) (W:=fun x=>zx7 x.1) (z:=default)
abbrev ttTslicesIsSortedFuncLapiWeightedapiWeighted0:=List Weighted×Unit×Int×Unit
def zjO (x_:List Weighted) (i:Int):Wy ttTslicesIsSortedFuncLapiWeightedapiWeighted0 (Unit) (Bool⊕Unit):=.i (decide (i>0)) (.i (decide (0≤i)&&decide (i<Int.ofNat x_.length)) (.i (decide (0≤IntKind.i64.wrap (i - 1))&&decide (IntKind.i64.wrap (i - 1)<Int.ofNat x_.length)) (.bn (zoW (x_.getD i.toNat default) (x_.getD (IntKind.i64.wrap (i - 1)).toNat default)) fun r0=>.i (decide (r0<0)) (.k (.inl false)) (.h (x_,(),(IntKind.i64.wrap (i - 1)),()) ())) .d) .d) (.k (.inr ()))
def zcN (x:ttTslicesIsSortedFuncLapiWeightedapiWeighted0) (y:Unit):Wy ttTslicesIsSortedFuncLapiWeightedapiWeighted0 (Unit) (Bool⊕Unit):=zjO x.1 x.2.2.1
def zjJ (n:Nat) (x_:List Weighted) (i:Int):Bool×(Bool⊕Unit):=zO (zcN) (.inl default) n (x_,(),i,()) ()
def ze4 (r:Bool⊕Unit):LTree ty:=.ite (isL r) (.done .ret [.lit (.bool (getL r))] []) (.done (.exit 0) [] [])
def zfc:LL ty ttTslicesIsSortedFuncLapiWeightedapiWeighted0:=za (lSl 182) (za (lFn 147 (zF)) (za (lInt .i64) zF))
def zfg:BL ty (Unit):=bNil
def zfd:Cx ty:=mkCx base 25 [(147,annotation_compareItems_spec)] [] [(2,[(0,.keep),(1,.keep),(5,.keep)])] [(2,1,[]),(2,0,[(4,.keep)])] [(2,spW zfc zfg (zcN) (.inl default) ze4 fun x y=>(x.1.length+Int.toNat x.2.2.1+1000))] []
theorem zjp:zX zfd (lp (body Tryz.f157) 0):=zN (id:=2) (V:=zfc) (B:=zfg) (W:=zcN) (z:=.inl default) (tr:=ze4) (m:=fun x y=>(x.1.length+Int.toNat x.2.2.1+1000))
def zfq (x_:List Weighted):Wy0 (Bool):=.bn (zjJ (x_.length+(IntKind.i64.wrap (Int.ofNat x_.length - 1)).toNat +1000) x_ (IntKind.i64.wrap (Int.ofNat x_.length - 1))) fun r2=>.i (isL r2) (.k (getL r2)) (.k true)
def zc5 (x_:List Weighted):Bool×Bool:=(zfq x_).fin default
def ze6 (r:Bool):ARes ty:=⟨[.pure (.lit (.bool r))],[]⟩
def zfz:AL base (List Weighted×Unit×Unit):=zf (zg (vSl 182)) (zf (zg (vFn 147 vNil)) aNil)
def zeD:Ab.Spec ty:=zn zfz fun x=>((zc5 x.1).1,ze6 (zc5 x.1).2)
theorem ziV:Sound Tryz.prog base 157 zeD:=
 zy (cx':=zfd) zH zo zD (zB ⟨zkQ,trivial⟩) Tryz.call157 Tryz.func157 (c:=body Tryz.f157) (by kernel_rfl) (zi (l:=[lp (body Tryz.f157) 0]) (by kernel_rfl) ⟨zjp,trivial⟩) (sg:=⟨[.pure],[]⟩) (A:=zfz) (res:=ze6) (W:=fun x=>zfq x.1) (z:=default)
def zbL (zb:List (List Term)→Bool×Bool) (zd:List Term→Bool×Bool) (zc:List Weighted→Bool×Bool) (ze:Weighted→Bool×Bool):Cx ty:=mkCx base 149 [(147,annotation_compareItems_spec),(148,(zbr zb)),(149,(zb3 zd)),(150,zuv),(151,zqe),(152,zmP),(153,zpM),(154,zl4),(155,(zbE zc)),(156,(zb2 ze)),(157,zeD),(158,zoK)] [] [] [] [] []
def zbv (zb:List (List Term)→Bool×Bool) (zd:List Term→Bool×Bool) (zc:List Weighted→Bool×Bool) (ze:Weighted→Bool×Bool) (x_:Atom):Wy0 (Bool):=.i (x_.Kind==0) (.i (x_.Func != 0) (.k false) (.i (Int.ofNat x_.Items.length != 0) (.k false) (.i (x_.Op != 0) (.k false) (.i (!(x_.Bound.Kind==0&&(x_.Bound.Int==0&&(x_.Bound.Text.toList==(ByteArray.mk #[]).toList&&true)))) (.k false) (.bn (zb x_.Args) fun r1=>.i (r1) (.k false) (.bn (zvs x_.Row) fun r0=>.i (r0) (.k (Int.ofNat x_.Args.length==0)) (.k false))))))) (.i (x_.Kind==1) (.i (x_.Func != 0) (.k false) (.i (Int.ofNat x_.Items.length != 0) (.k false) (.i (x_.Op != 0) (.k false) (.i (!(x_.Bound.Kind==0&&(x_.Bound.Int==0&&(x_.Bound.Text.toList==(ByteArray.mk #[]).toList&&true)))) (.k false) (.i (!(x_.Row.Table==0&&(x_.Row.Seq==0&&true))) (.k false) (.bn (zb x_.Args) fun r3=>.i (r3) (.k false) (.i (Int.ofNat x_.Args.length==2) (.i (decide ((0:Int)≤(0:Int))&&decide (0<Int.ofNat x_.Args.length)) (.i (decide ((0:Int)≤(1:Int))&&decide (1<Int.ofNat x_.Args.length)) (.bn (zp8 (x_.Args.getD (Int.toNat 0) default) (x_.Args.getD (Int.toNat 1) default)) fun r2=>.k (!r2)) .d) .d) (.k false)))))))) (.i (x_.Kind==2) (.i (x_.Func != 0) (.k false) (.i (Int.ofNat x_.Items.length != 0) (.k false) (.i (x_.Op != 0) (.k false) (.i (!(x_.Bound.Kind==0&&(x_.Bound.Int==0&&(x_.Bound.Text.toList==(ByteArray.mk #[]).toList&&true)))) (.k false) (.i (!(x_.Row.Table==0&&(x_.Row.Seq==0&&true))) (.k false) (.bn (zb x_.Args) fun r6=>.i (r6) (.k false) (.i (Int.ofNat x_.Args.length==1) (.i (decide ((0:Int)≤(0:Int))&&decide (0<Int.ofNat x_.Args.length)) (.bn (zll (x_.Args.getD (Int.toNat 0) default)) fun r5=>.i (!r5) (.i (decide ((0:Int)≤(0:Int))&&decide (0<Int.ofNat x_.Args.length)) (.bn (zo2 (x_.Args.getD (Int.toNat 0) default)) fun r4=>.k (!r4)) .d) (.k false)) .d) (.k false)))))))) (.i (x_.Kind==3) (.i (x_.Func != 0) (.k false) (.i (Int.ofNat x_.Items.length != 0) (.k false) (.i (x_.Op != 0) (.k false) (.i (!(x_.Bound.Kind==0&&(x_.Bound.Int==0&&(x_.Bound.Text.toList==(ByteArray.mk #[]).toList&&true)))) (.k false) (.i (!(x_.Row.Table==0&&(x_.Row.Seq==0&&true))) (.k false) (.bn (zb x_.Args) fun r8=>.i (r8) (.k false) (.i (Int.ofNat x_.Args.length==1) (.i (decide ((0:Int)≤(0:Int))&&decide (0<Int.ofNat x_.Args.length)) (.bn (zkJ (x_.Args.getD (Int.toNat 0) default)) fun r7=>.k (!r7)) .d) (.k false)))))))) (.i (x_.Kind==4) (.i (!(x_.Row.Table==0&&(x_.Row.Seq==0&&true))) (.k false) (.bn (zb x_.Args) fun r12=>.i (r12) (.k false) (.bn (zc x_.Items) fun r11=>.i (Int.ofNat x_.Args.length==0) (.i (decide (Int.ofNat x_.Items.length>0)) (.i (!r11) (.bn (zc5 x_.Items) fun r10=>.i (r10) (.bn (zoa x_.Func x_.Items x_.Op x_.Bound) fun r9=>.k r9) (.k false)) (.k false)) (.k false)) (.k false)))) (.i (x_.Func != 0) (.k false) (.i (Int.ofNat x_.Items.length != 0) (.k false) (.i (x_.Op != 0) (.k false) (.i (!(x_.Bound.Kind==0&&(x_.Bound.Int==0&&(x_.Bound.Text.toList==(ByteArray.mk #[]).toList&&true)))) (.k false) (.i (!(x_.Row.Table==0&&(x_.Row.Seq==0&&true))) (.k false) (.bn (zb x_.Args) fun r14=>.i (r14) (.k false) (.k false)))))))))))
def zpB (zb:List (List Term)→Bool×Bool) (zd:List Term→Bool×Bool) (zc:List Weighted→Bool×Bool) (ze:Weighted→Bool×Bool) (x_:Atom):Bool×Bool:=(zbv zb zd zc ze x_).fin default
theorem ztN (zb:List (List Term)→Bool×Bool) (zd:List Term→Bool×Bool) (zc:List Weighted→Bool×Bool) (ze:Weighted→Bool×Bool) (v_Row:RowID) (v_Args:List (List Term)) (v_Func:Int) (v_Items:List Weighted) (v_Op:Int) (v_Bound:Value)  :zgW (zbL zb zd zc ze) Tryz.f111 (body Tryz.f111) ⟨[.pure],[]⟩ [.pure (.agg (base.enc 158 (Atom.mk (Int.ofNat 0) v_Row v_Args v_Func v_Items v_Op v_Bound)))]=(zbv zb zd zc ze (Atom.mk (Int.ofNat 0) v_Row v_Args v_Func v_Items v_Op v_Bound)).ev noH (fun r=>some (zbu r)) none:=by kernel_rfl
theorem ztd (zb:List (List Term)→Bool×Bool) (zd:List Term→Bool×Bool) (zc:List Weighted→Bool×Bool) (ze:Weighted→Bool×Bool) (v_Row:RowID) (v_Args:List (List Term)) (v_Func:Int) (v_Items:List Weighted) (v_Op:Int) (v_Bound:Value)  :zgW (zbL zb zd zc ze) Tryz.f111 (body Tryz.f111) ⟨[.pure],[]⟩ [.pure (.agg (base.enc 158 (Atom.mk (Int.ofNat 1) v_Row v_Args v_Func v_Items v_Op v_Bound)))]=(zbv zb zd zc ze (Atom.mk (Int.ofNat 1) v_Row v_Args v_Func v_Items v_Op v_Bound)).ev noH (fun r=>some (zbu r)) none:=by kernel_rfl
theorem ztv (zb:List (List Term)→Bool×Bool) (zd:List Term→Bool×Bool) (zc:List Weighted→Bool×Bool) (ze:Weighted→Bool×Bool) (v_Row:RowID) (v_Args:List (List Term)) (v_Func:Int) (v_Items:List Weighted) (v_Op:Int) (v_Bound:Value)  :zgW (zbL zb zd zc ze) Tryz.f111 (body Tryz.f111) ⟨[.pure],[]⟩ [.pure (.agg (base.enc 158 (Atom.mk (Int.ofNat 2) v_Row v_Args v_Func v_Items v_Op v_Bound)))]=(zbv zb zd zc ze (Atom.mk (Int.ofNat 2) v_Row v_Args v_Func v_Items v_Op v_Bound)).ev noH (fun r=>some (zbu r)) none:=by kernel_rfl
theorem ztt (zb:List (List Term)→Bool×Bool) (zd:List Term→Bool×Bool) (zc:List Weighted→Bool×Bool) (ze:Weighted→Bool×Bool) (v_Row:RowID) (v_Args:List (List Term)) (v_Func:Int) (v_Items:List Weighted) (v_Op:Int) (v_Bound:Value)  :zgW (zbL zb zd zc ze) Tryz.f111 (body Tryz.f111) ⟨[.pure],[]⟩ [.pure (.agg (base.enc 158 (Atom.mk (Int.ofNat 3) v_Row v_Args v_Func v_Items v_Op v_Bound)))]=(zbv zb zd zc ze (Atom.mk (Int.ofNat 3) v_Row v_Args v_Func v_Items v_Op v_Bound)).ev noH (fun r=>some (zbu r)) none:=by kernel_rfl
theorem ztK (zb:List (List Term)→Bool×Bool) (zd:List Term→Bool×Bool) (zc:List Weighted→Bool×Bool) (ze:Weighted→Bool×Bool) (v_Row:RowID) (v_Args:List (List Term)) (v_Func:Int) (v_Items:List Weighted) (v_Op:Int) (v_Bound:Value)  :zgW (zbL zb zd zc ze) Tryz.f111 (body Tryz.f111) ⟨[.pure],[]⟩ [.pure (.agg (base.enc 158 (Atom.mk (Int.ofNat 4) v_Row v_Args v_Func v_Items v_Op v_Bound)))]=(zbv zb zd zc ze (Atom.mk (Int.ofNat 4) v_Row v_Args v_Func v_Items v_Op v_Bound)).ev noH (fun r=>some (zbu r)) none:=by kernel_rfl
theorem ztz (zb:List (List Term)→Bool×Bool) (zd:List Term→Bool×Bool) (zc:List Weighted→Bool×Bool) (ze:Weighted→Bool×Bool) (n:Nat) (v_Row:RowID) (v_Args:List (List Term)) (v_Func:Int) (v_Items:List Weighted) (v_Op:Int) (v_Bound:Value)  :zgW (zbL zb zd zc ze) Tryz.f111 (body Tryz.f111) ⟨[.pure],[]⟩ [.pure (.agg (base.enc 158 (Atom.mk (Int.ofNat (n+5)) v_Row v_Args v_Func v_Items v_Op v_Bound)))]=(zbv zb zd zc ze (Atom.mk (Int.ofNat (n+5)) v_Row v_Args v_Func v_Items v_Op v_Bound)).ev noH (fun r=>some (zbu r)) none:=by kernel_rfl
theorem ztA (zb:List (List Term)→Bool×Bool) (zd:List Term→Bool×Bool) (zc:List Weighted→Bool×Bool) (ze:Weighted→Bool×Bool) (n:Nat) (v_Row:RowID) (v_Args:List (List Term)) (v_Func:Int) (v_Items:List Weighted) (v_Op:Int) (v_Bound:Value)  :zgW (zbL zb zd zc ze) Tryz.f111 (body Tryz.f111) ⟨[.pure],[]⟩ [.pure (.agg (base.enc 158 (Atom.mk (Int.negSucc n) v_Row v_Args v_Func v_Items v_Op v_Bound)))]=(zbv zb zd zc ze (Atom.mk (Int.negSucc n) v_Row v_Args v_Func v_Items v_Op v_Bound)).ev noH (fun r=>some (zbu r)) none:=by kernel_rfl
theorem zug (zb:List (List Term)→Bool×Bool) (zd:List Term→Bool×Bool) (zc:List Weighted→Bool×Bool) (ze:Weighted→Bool×Bool) (x_:Atom):zgW (zbL zb zd zc ze) Tryz.f111 (body Tryz.f111) ⟨[.pure],[]⟩ [.pure (.agg (base.enc 158 x_))]=(zbv zb zd zc ze x_).ev noH (fun r=>some (zbu r)) none:=by
 obtain ⟨v_Kind,v_Row,v_Args,v_Func,v_Items,v_Op,v_Bound⟩:=x_
 match v_Kind with
 | .ofNat 0=>exact ztN zb zd zc ze v_Row v_Args v_Func v_Items v_Op v_Bound 
 | .ofNat 1=>exact ztd zb zd zc ze v_Row v_Args v_Func v_Items v_Op v_Bound 
 | .ofNat 2=>exact ztv zb zd zc ze v_Row v_Args v_Func v_Items v_Op v_Bound 
 | .ofNat 3=>exact ztt zb zd zc ze v_Row v_Args v_Func v_Items v_Op v_Bound 
 | .ofNat 4=>exact ztK zb zd zc ze v_Row v_Args v_Func v_Items v_Op v_Bound 
 | .ofNat (n+5)=>exact ztz zb zd zc ze n v_Row v_Args v_Func v_Items v_Op v_Bound 
 | .negSucc n=>exact ztA zb zd zc ze n v_Row v_Args v_Func v_Items v_Op v_Bound 
theorem zsO (zb:List (List Term)→Bool×Bool) (zd:List Term→Bool×Bool) (zc:List Weighted→Bool×Bool) (ze:Weighted→Bool×Bool) (zhZ:Sound Tryz.prog base 148 (zbr zb)) (zd6:Sound Tryz.prog base 149 (zb3 zd)) (ziE:Sound Tryz.prog base 155 (zbE zc)) (zea:Sound Tryz.prog base 156 (zb2 ze)):Sound Tryz.prog base 111 (zii (zpB zb zd zc ze)):=
 zy (cx':=(zbL zb zd zc ze)) zH zo zD (zB ⟨zkQ,zhZ,zd6,zAA,zw8,ztE,zv3,zs0,ziE,zea,ziV,zvM,trivial⟩) Tryz.call111 Tryz.func111 (c:=body Tryz.f111) (by kernel_rfl) (zi (l:=[]) (by kernel_rfl) trivial) (sg:=⟨[.pure],[]⟩) (A:=zp0) (res:=zbu) (W:=fun x=>zbv zb zd zc ze x.1) (z:=default) (fun x=>zug zb zd zc ze x.1) (fun _=>by kernel_rfl)
def zsS (zS:List Term→Bool×Bool):Cx ty:=mkCx base 11 [(69,(zfA zS))] [] [] [] [] []
def zl3 (zS:List Term→Bool×Bool) (a:List Term):Wy0 (Bool):=.bn (zS a) fun r0=>.i (!r0) (.k true) (.k (Int.ofNat a.length==0))
def znJ (zS:List Term→Bool×Bool) (a:List Term):Bool×Bool:=(zl3 zS a).fin default
theorem zq5 (zS:List Term→Bool×Bool) (zmG:Sound Tryz.prog base 69 (zfA zS)):Sound Tryz.prog base 149 (zb3 (znJ zS)):=
 zy (cx':=(zsS zS)) zH zo zD (zB ⟨zmG,trivial⟩) Tryz.call149 Tryz.func149 (c:=body Tryz.f149) (by kernel_rfl) (zi (l:=[]) (by kernel_rfl) trivial) (sg:=⟨[.pure],[]⟩) (A:=zns) (res:=zl5) (W:=fun x=>zl3 zS x.1) (z:=default)
def zsT (zS:List Term→Bool×Bool):Cx ty:=mkCx base 13 [(69,(zfA zS))] [] [] [] [] []
def zlQ (zS:List Term→Bool×Bool) (w:Weighted):Wy0 (Bool):=.bn (zS w.Ann) fun r0=>.i (!r0) (.k true) (.k (Int.ofNat w.Ann.length==0))
def zni (zS:List Term→Bool×Bool) (w:Weighted):Bool×Bool:=(zlQ zS w).fin default
theorem zq2 (zS:List Term→Bool×Bool) (zmG:Sound Tryz.prog base 69 (zfA zS)):Sound Tryz.prog base 156 (zb2 (zni zS)):=
 zy (cx':=(zsT zS)) zH zo zD (zB ⟨zmG,trivial⟩) Tryz.call156 Tryz.func156 (c:=body Tryz.f156) (by kernel_rfl) (zi (l:=[]) (by kernel_rfl) trivial) (sg:=⟨[.pure],[]⟩) (A:=zng) (res:=zmh) (W:=fun x=>zlQ zS x.1) (z:=default)
def zhL (zd:List Term→Bool×Bool) (zG:List (List Term)→Bool×Int):Cx ty:=mkCx base 9 [(149,(zb3 zd)),(199,(zbw zG))] [] [] [] [] []
def zdA (zd:List Term→Bool×Bool) (zG:List (List Term)→Bool×Int) (s:List (List Term)):Wy0 (Bool):=.bn (zG s) fun r0=>.k (decide (r0≥0))
def zdT (zd:List Term→Bool×Bool) (zG:List (List Term)→Bool×Int) (s:List (List Term)):Bool×Bool:=(zdA zd zG s).fin default
theorem zhk (zd:List Term→Bool×Bool) (zG:List (List Term)→Bool×Int) (zd6:Sound Tryz.prog base 149 (zb3 zd)) (ziq:Sound Tryz.prog base 199 (zbw zG)):Sound Tryz.prog base 148 (zbr (zdT zd zG)):=
 zy (cx':=(zhL zd zG)) zH zo zD (zB ⟨zd6,ziq,trivial⟩) Tryz.call148 Tryz.func148 (c:=body Tryz.f148) (by kernel_rfl) (zi (l:=[]) (by kernel_rfl) trivial) (sg:=⟨[.pure],[]⟩) (A:=zdV) (res:=zdz) (W:=fun x=>zdA zd zG x.1) (z:=default)
def ziz (ze:Weighted→Bool×Bool) (zI:List Weighted→Bool×Int):Cx ty:=mkCx base 9 [(156,(zb2 ze)),(201,(zbS zI))] [] [] [] [] []
def zem (ze:Weighted→Bool×Bool) (zI:List Weighted→Bool×Int) (s:List Weighted):Wy0 (Bool):=.bn (zI s) fun r0=>.k (decide (r0≥0))
def zeL (ze:Weighted→Bool×Bool) (zI:List Weighted→Bool×Int) (s:List Weighted):Bool×Bool:=(zem ze zI s).fin default
theorem zhR (ze:Weighted→Bool×Bool) (zI:List Weighted→Bool×Int) (zea:Sound Tryz.prog base 156 (zb2 ze)) (zjt:Sound Tryz.prog base 201 (zbS zI)):Sound Tryz.prog base 155 (zbE (zeL ze zI)):=
 zy (cx':=(ziz ze zI)) zH zo zD (zB ⟨zea,zjt,trivial⟩) Tryz.call155 Tryz.func155 (c:=body Tryz.f155) (by kernel_rfl) (zi (l:=[]) (by kernel_rfl) trivial) (sg:=⟨[.pure],[]⟩) (A:=zeM) (res:=zej) (W:=fun x=>zem ze zI x.1) (z:=default)
abbrev ttTslicesIndexFuncLapiAnnotationapiAnnotationv10:=List (List Term)×Unit×Int×Int×Unit
def zik (zd:List Term→Bool×Bool) (s:List (List Term)) (t7:Int) (t8:Int):Wy ttTslicesIndexFuncLapiAnnotationapiAnnotationv10 (Unit) (Int⊕Unit):=.i (decide (t8<t7)) (.i (decide (0≤t8)&&decide (t8<Int.ofNat s.length)) (.bn (zd (s.getD t8.toNat default)) fun r0=>.i (r0) (.k (.inl t8)) (.h (s,(),t7,(IntKind.i64.wrap (t8+1)),()) ())) .d) (.k (.inr ()))
def zcb (zd:List Term→Bool×Bool) (x:ttTslicesIndexFuncLapiAnnotationapiAnnotationv10) (y:Unit):Wy ttTslicesIndexFuncLapiAnnotationapiAnnotationv10 (Unit) (Int⊕Unit):=zik zd x.1 x.2.2.1 x.2.2.2.1
def zih (zd:List Term→Bool×Bool) (n:Nat) (s:List (List Term)) (t7:Int) (t8:Int):Bool×(Int⊕Unit):=zO (zcb zd) (.inl default) n (s,(),t7,t8,()) ()
def zdQ (r:Int⊕Unit):LTree ty:=.ite (isL r) (.done .ret [.lit (.int .i64 (getL r))] []) (.done (.exit 0) [] [])
def zdS:LL ty ttTslicesIndexFuncLapiAnnotationapiAnnotationv10:=za (lSl 36) (za (lFn 149 (zF)) (za (lInt .i64) (za (lInt .i64) zF)))
def zdZ:BL ty (Unit):=bNil
def zdN (x:ttTslicesIndexFuncLapiAnnotationapiAnnotationv10) (y:Unit):Nat:=(x.1.length+Int.toNat x.2.2.1+Int.toNat x.2.2.2.1+1000)
def zdX (zd:List Term→Bool×Bool):Cx ty:=mkCx base 19 [(149,(zb3 zd))] [] [(2,[(0,.keep),(1,.keep),(7,.keep),(8,.keep)])] [(2,1,[]),(2,0,[(4,.keep)])] [(2,spW zdS zdZ (zcb zd) (.inl default) zdQ zdN)] []
theorem zh1 (zd:List Term→Bool×Bool):zX (zdX zd) (lp (body Tryz.f199) 0):=zN (id:=2) (V:=zdS) (B:=zdZ) (W:=zcb zd) (z:=.inl default) (tr:=zdQ) (m:=zdN)
def zd9 (zd:List Term→Bool×Bool) (s:List (List Term)):Wy0 (Int):=.bn (zih zd (s.length+(Int.ofNat s.length).toNat +Int.toNat 0+1000) s (Int.ofNat s.length) 0) fun r2=>.i (isL r2) (.k (getL r2)) (.k (-1:Int))
def zes (zd:List Term→Bool×Bool) (s:List (List Term)):Bool×Int:=(zd9 zd s).fin default
theorem zhO (zd:List Term→Bool×Bool) (zd6:Sound Tryz.prog base 149 (zb3 zd)):Sound Tryz.prog base 199 (zbw (zes zd)):=
 zy (cx':=(zdX zd)) zH zo zD (zB ⟨zd6,trivial⟩) Tryz.call199 Tryz.func199 (c:=body Tryz.f199) (by kernel_rfl) (zi (l:=[lp (body Tryz.f199) 0]) (by kernel_rfl) ⟨zh1 zd,trivial⟩) (sg:=⟨[.pure],[]⟩) (A:=zew) (res:=zeb) (W:=fun x=>zd9 zd x.1) (z:=default)
abbrev ttTslicesIndexFuncLapiWeightedapiWeightedv20:=List Weighted×Unit×Int×Int×Unit
def zi9 (ze:Weighted→Bool×Bool) (s:List Weighted) (t7:Int) (t8:Int):Wy ttTslicesIndexFuncLapiWeightedapiWeightedv20 (Unit) (Int⊕Unit):=.i (decide (t8<t7)) (.i (decide (0≤t8)&&decide (t8<Int.ofNat s.length)) (.bn (ze (s.getD t8.toNat default)) fun r0=>.i (r0) (.k (.inl t8)) (.h (s,(),t7,(IntKind.i64.wrap (t8+1)),()) ())) .d) (.k (.inr ()))
def zcz (ze:Weighted→Bool×Bool) (x:ttTslicesIndexFuncLapiWeightedapiWeightedv20) (y:Unit):Wy ttTslicesIndexFuncLapiWeightedapiWeightedv20 (Unit) (Int⊕Unit):=zi9 ze x.1 x.2.2.1 x.2.2.2.1
def zi6 (ze:Weighted→Bool×Bool) (n:Nat) (s:List Weighted) (t7:Int) (t8:Int):Bool×(Int⊕Unit):=zO (zcz ze) (.inl default) n (s,(),t7,t8,()) ()
def zep (r:Int⊕Unit):LTree ty:=.ite (isL r) (.done .ret [.lit (.int .i64 (getL r))] []) (.done (.exit 0) [] [])
def zeF:LL ty ttTslicesIndexFuncLapiWeightedapiWeightedv20:=za (lSl 182) (za (lFn 156 (zF)) (za (lInt .i64) (za (lInt .i64) zF)))
def zeG:BL ty (Unit):=bNil
def zeo (x:ttTslicesIndexFuncLapiWeightedapiWeightedv20) (y:Unit):Nat:=(x.1.length+Int.toNat x.2.2.1+Int.toNat x.2.2.2.1+1000)
def zeN (ze:Weighted→Bool×Bool):Cx ty:=mkCx base 19 [(156,(zb2 ze))] [] [(2,[(0,.keep),(1,.keep),(7,.keep),(8,.keep)])] [(2,1,[]),(2,0,[(4,.keep)])] [(2,spW zeF zeG (zcz ze) (.inl default) zep zeo)] []
theorem zi2 (ze:Weighted→Bool×Bool):zX (zeN ze) (lp (body Tryz.f201) 0):=zN (id:=2) (V:=zeF) (B:=zeG) (W:=zcz ze) (z:=.inl default) (tr:=zep) (m:=zeo)
def zeS (ze:Weighted→Bool×Bool) (s:List Weighted):Wy0 (Int):=.bn (zi6 ze (s.length+(Int.ofNat s.length).toNat +Int.toNat 0+1000) s (Int.ofNat s.length) 0) fun r2=>.i (isL r2) (.k (getL r2)) (.k (-1:Int))
def zfx (ze:Weighted→Bool×Bool) (s:List Weighted):Bool×Int:=(zeS ze s).fin default
theorem ziC (ze:Weighted→Bool×Bool) (zea:Sound Tryz.prog base 156 (zb2 ze)):Sound Tryz.prog base 201 (zbS (zfx ze)):=
 zy (cx':=(zeN ze)) zH zo zD (zB ⟨zea,trivial⟩) Tryz.call201 Tryz.func201 (c:=body Tryz.f201) (by kernel_rfl) (zi (l:=[lp (body Tryz.f201) 0]) (by kernel_rfl) ⟨zi2 ze,trivial⟩) (sg:=⟨[.pure],[]⟩) (A:=zfB) (res:=ze5) (W:=fun x=>zeS ze x.1) (z:=default)
def zcL:Nat→(List Term→Bool×Bool)×(Atom→Bool×Bool)×(List Term→Bool×Bool)×(Weighted→Bool×Bool)×(List (List Term)→Bool×Int)×(List (List Term)→Bool×Bool)×(List Weighted→Bool×Int)×(List Weighted→Bool×Bool)
 | 0=>(fun _=>(false,default),fun _=>(false,default),fun _=>(false,default),fun _=>(false,default),fun _=>(false,default),fun _=>(false,default),fun _=>(false,default),fun _=>(false,default))
 | n+1=>(zta ((zcL n).2.1),zpB ((zcL n).2.2.2.2.2.1) ((zcL n).2.2.1) ((zcL n).2.2.2.2.2.2.2) ((zcL n).2.2.2.1),znJ ((zcL n).1),zni ((zcL n).1),zes ((zcL n).2.2.1),zdT ((zcL n).2.2.1) ((zcL n).2.2.2.2.1),zfx ((zcL n).2.2.2.1),zeL ((zcL n).2.2.2.1) ((zcL n).2.2.2.2.2.2.1))
def ztO (n:Nat):List Term→Bool×Bool:=(zcL n).1
def zw7 (n:Nat):Atom→Bool×Bool:=(zcL n).2.1
def zuV (n:Nat):List Term→Bool×Bool:=(zcL n).2.2.1
def zuO (n:Nat):Weighted→Bool×Bool:=(zcL n).2.2.2.1
def ziY (n:Nat):List (List Term)→Bool×Int:=(zcL n).2.2.2.2.1
def zic (n:Nat):List (List Term)→Bool×Bool:=(zcL n).2.2.2.2.2.1
def zjZ (n:Nat):List Weighted→Bool×Int:=(zcL n).2.2.2.2.2.2.1
def zi8 (n:Nat):List Weighted→Bool×Bool:=(zcL n).2.2.2.2.2.2.2
theorem zBw:∀ n,Sound Tryz.prog base 69 (zfA (ztO n))∧Sound Tryz.prog base 111 (zii (zw7 n))∧Sound Tryz.prog base 149 (zb3 (zuV n))∧Sound Tryz.prog base 156 (zb2 (zuO n))∧Sound Tryz.prog base 199 (zbw (ziY n))∧Sound Tryz.prog base 148 (zbr (zic n))∧Sound Tryz.prog base 201 (zbS (zjZ n))∧Sound Tryz.prog base 155 (zbE (zi8 n))
 | 0=>⟨zbp Tryz.call69 (fun _=>rfl),zbp Tryz.call111 (fun _=>rfl),zbp Tryz.call149 (fun _=>rfl),zbp Tryz.call156 (fun _=>rfl),zbp Tryz.call199 (fun _=>rfl),zbp Tryz.call148 (fun _=>rfl),zbp Tryz.call201 (fun _=>rfl),zbp Tryz.call155 (fun _=>rfl)⟩
 | n+1=>by
  have ih:=zBw n
  exact ⟨zvg _ (ih.2.1),zsO _ _ _ _ (ih.2.2.2.2.2.1) (ih.2.2.1) (ih.2.2.2.2.2.2.2) (ih.2.2.2.1),zq5 _ (ih.1),zq2 _ (ih.1),zhO _ (ih.2.2.1),zhk _ _ (ih.2.2.1) (ih.2.2.2.2.1),ziC _ (ih.2.2.2.1),zhR _ _ (ih.2.2.2.1) (ih.2.2.2.2.2.2.1)⟩
def zmp:List Term→Bool×Bool:=ztO 1000
def annotation_Valid_spec:Ab.Spec ty:=zfA zmp
theorem zw1:Sound Tryz.prog base 69 annotation_Valid_spec:=(zBw 1000).1
def zAS (r:List Term×Int):ARes ty:=⟨[.own 152 r.1,.pure (.lit (.int .i64 r.2))],[]⟩
def zB4:AL base (List Term×List Term×Unit):=zf (zg (vSl 152)) (zf (zg (vSl 152)) aNil)
def zBS (F:List Term→List Term→Bool×(List Term×Int)):Ab.Spec ty:=zn zB4 fun x=>((F x.1 x.2.1).1,zAS (F x.1 x.2.1).2)
def zxW:List Term→List Term→Bool×(List Term×Int):=fun a _=>(decide (a.length=a.length+1),default)
def annotation_Add_spec:Ab.Spec ty:=zBS zxW
theorem zyD:Sound Tryz.prog base 77 annotation_Add_spec:=zbp Tryz.call77 (fun _=>decide_eq_false (Nat.ne_of_lt (Nat.lt_succ_self _)))
def zvn:Cx ty:=mkCx base 7 [] [] [] [] [] []
def zoF (x_:Row):Wy0 (Bool):=.k (Int.ofNat x_.Ann.length==0)
def ziM (x_:Row):Bool×Bool:=(zoF x_).fin default
def zno (r:Bool):ARes ty:=⟨[.pure (.lit (.bool r))],[]⟩
def zoQ:AL base (Row×Unit):=zf (zg (vAgg 38)) aNil
def zgT:Ab.Spec ty:=zn zoQ fun x=>((ziM x.1).1,zno (ziM x.1).2)
theorem ziu:Sound Tryz.prog base 72 zgT:=
 zy (cx':=zvn) zH zo zD (zB trivial) Tryz.call72 Tryz.func72 (c:=body Tryz.f72) (by kernel_rfl) (zi (l:=[]) (by kernel_rfl) trivial) (sg:=⟨[.pure],[]⟩) (A:=zoQ) (res:=zno) (W:=fun x=>zoF x.1) (z:=default)
abbrev ttTslicesCompareFuncLapiValueLapiValueapiValueapiValue0:=List Value×List Value×Unit×List Value×Int×Int×Unit
abbrev ttTslicesCompareFuncLapiValueLapiValueapiValueapiValue1:=Int⊕(List Value×List Value)
def zhc (s1:List Value) (s2:List Value) (t11:List Value) (t12:Int) (t13:Int):Wy ttTslicesCompareFuncLapiValueLapiValueapiValueapiValue0 (Unit) ttTslicesCompareFuncLapiValueLapiValueapiValueapiValue1:=.i (decide (t13<t12)) (.i (decide (0≤t13)&&decide (t13<Int.ofNat t11.length)) (.i (decide (t13≥Int.ofNat s2.length)) (.k (.inl 1)) (.i (decide (0≤t13)&&decide (t13<Int.ofNat s2.length)) (.bn (zbc (t11.getD t13.toNat default) (s2.getD t13.toNat default)) fun r0=>.i (r0 != 0) (.k (.inl (r0))) (.h (s1,s2,(),t11,t12,(IntKind.i64.wrap (t13+1)),()) ())) .d)) .d) (.k (.inr (s1,s2)))
def zbI (x:ttTslicesCompareFuncLapiValueLapiValueapiValueapiValue0) (y:Unit):Wy ttTslicesCompareFuncLapiValueLapiValueapiValueapiValue0 (Unit) ttTslicesCompareFuncLapiValueLapiValueapiValueapiValue1:=zhc x.1 x.2.1 x.2.2.2.1 x.2.2.2.2.1 x.2.2.2.2.2.1
def zg6 (n:Nat) (s1:List Value) (s2:List Value) (t11:List Value) (t12:Int) (t13:Int):Bool×ttTslicesCompareFuncLapiValueLapiValueapiValueapiValue1:=zO (zbI) (.inl default) n (s1,s2,(),t11,t12,t13,()) ()
def zcQ (r:ttTslicesCompareFuncLapiValueLapiValueapiValueapiValue1):LTree ty:=.ite (isL r) (.done .ret [.lit (.int .i64 (getL r))] []) (.done (.exit 0) [.sl 40 (getR r).1,.sl 40 (getR r).2] [])
def zcV:LL ty ttTslicesCompareFuncLapiValueLapiValueapiValueapiValue0:=za (lSl 40) (za (lSl 40) (za (lFn 79 (zF)) (za (lSl 40) (za (lInt .i64) (za (lInt .i64) zF)))))
def zcX:BL ty (Unit):=bNil
def zcR (x:ttTslicesCompareFuncLapiValueLapiValueapiValueapiValue0) (y:Unit):Nat:=(x.1.length+x.2.1.length+x.2.2.2.1.length+Int.toNat x.2.2.2.2.1+Int.toNat x.2.2.2.2.2.1+1000)
def zcT:Cx ty:=mkCx base 39 [(79,zcc)] [] [(2,[(0,.keep),(1,.keep),(2,.keep),(11,.keep),(12,.keep),(13,.keep)])] [(2,1,[(0,.keep),(1,.keep)]),(2,0,[(6,.keep)])] [(2,spW zcV zcX (zbI) (.inl default) zcQ zcR)] []
theorem zg4:zX zcT (lp (body Tryz.f161) 0):=zN (id:=2) (V:=zcV) (B:=zcX) (W:=zbI) (z:=.inl default) (tr:=zcQ) (m:=zcR)
def zc0 (s1:List Value) (s2:List Value):Wy0 (Int):=.bn (zg6 (s1.length+s2.length+s1.length+(Int.ofNat s1.length).toNat +Int.toNat 0+1000) s1 s2 s1 (Int.ofNat s1.length) 0) fun r2=>.i (isL r2) (.k (getL r2)) (.i (decide (Int.ofNat (getR r2).1.length<Int.ofNat (getR r2).2.length)) (.k (-1:Int)) (.k 0))
def zbP (s1:List Value) (s2:List Value):Bool×Int:=(zc0 s1 s2).fin default
def zcP (r:Int):ARes ty:=⟨[.pure (.lit (.int .i64 r))],[]⟩
def zcZ:AL base (List Value×List Value×Unit×Unit):=zf (zg (vSl 40)) (zf (zg (vSl 40)) (zf (zg (vFn 79 vNil)) aNil))
def zcO:Ab.Spec ty:=zn zcZ fun x=>((zbP x.1 x.2.1).1,zcP (zbP x.1 x.2.1).2)
theorem zgD:Sound Tryz.prog base 161 zcO:=
 zy (cx':=zcT) zH zo zD (zB ⟨zcr,trivial⟩) Tryz.call161 Tryz.func161 (c:=body Tryz.f161) (by kernel_rfl) (zi (l:=[lp (body Tryz.f161) 0]) (by kernel_rfl) ⟨zg4,trivial⟩) (sg:=⟨[.pure],[]⟩) (A:=zcZ) (res:=zcP) (W:=fun x=>zc0 x.1 x.2.1) (z:=default)
def zyr:Cx ty:=mkCx base 8 [(79,zcc),(161,zcO)] [] [] [] [] []
def zsn (a:List Value) (b:List Value):Wy0 (Int):=.bn (zbP a b) fun r0=>.k r0
def zpk (a:List Value) (b:List Value):Bool×Int:=(zsn a b).fin default
def zqv (r:Int):ARes ty:=⟨[.pure (.lit (.int .i64 r))],[]⟩
def zsh:AL base (List Value×List Value×Unit):=zf (zg (vSl 40)) (zf (zg (vSl 40)) aNil)
def zpC:Ab.Spec ty:=zn zsh fun x=>((zpk x.1 x.2.1).1,zqv (zpk x.1 x.2.1).2)
theorem zv6:Sound Tryz.prog base 114 zpC:=
 zy (cx':=zyr) zH zo zD (zB ⟨zcr,zgD,trivial⟩) Tryz.call114 Tryz.func114 (c:=body Tryz.f114) (by kernel_rfl) (zi (l:=[]) (by kernel_rfl) trivial) (sg:=⟨[.pure],[]⟩) (A:=zsh) (res:=zqv) (W:=fun x=>zsn x.1 x.2.1) (z:=default)
def zzF:Cx ty:=mkCx base 10 [(114,zpC)] [] [] [] [] []
def ztF (x_:Row) (y_:Row):Wy0 (Int):=.bn (zpk x_.Values y_.Values) fun r0=>.k r0
def zbB (x_:Row) (y_:Row):Bool×Int:=(ztF x_ y_).fin default
def zrm (r:Int):ARes ty:=⟨[.pure (.lit (.int .i64 r))],[]⟩
def ztn:AL base (Row×Row×Unit):=zf (zg (vAgg 38)) (zf (zg (vAgg 38)) aNil)
def zlu:Ab.Spec ty:=zn ztn fun x=>((zbB x.1 x.2.1).1,zrm (zbB x.1 x.2.1).2)
theorem zpQ:Sound Tryz.prog base 74 zlu:=
 zy (cx':=zzF) zH zo zD (zB ⟨zv6,trivial⟩) Tryz.call74 Tryz.func74 (c:=body Tryz.f74) (by kernel_rfl) (zi (l:=[]) (by kernel_rfl) trivial) (sg:=⟨[.pure],[]⟩) (A:=ztn) (res:=zrm) (W:=fun x=>ztF x.1 x.2.1) (z:=default)
def zuK (r:List Term×Int):ARes ty:=⟨[.own 152 r.1,.pure (.lit (.int .i64 r.2))],[]⟩
def zwe:AL base (List Term×List Binding×Unit):=zf (zg (vSl 152)) (zf (zg (vSl 210)) aNil)
def zvZ (F:List Term→List Binding→Bool×(List Term×Int)):Ab.Spec ty:=zn zwe fun x=>((F x.1 x.2.1).1,zuK (F x.1 x.2.1).2)
def zqz:List Term→List Binding→Bool×(List Term×Int):=fun a _=>(decide (a.length=a.length+1),default)
def annotation_Substitute_spec:Ab.Spec ty:=zvZ zqz
theorem ztj:Sound Tryz.prog base 115 annotation_Substitute_spec:=zbp Tryz.call115 (fun _=>decide_eq_false (Nat.ne_of_lt (Nat.lt_succ_self _)))
def zdi:Cx ty:={ base with nt:=8 }
def zgE (s:List Value):Bool×List Value:=(decide (s.length*32≤reach),s)
def zhW:Ab.Spec ty:=zn (cx:=base) (zf (zg (vSl 40)) aNil) fun x=>((zgE x.1).1,⟨[.own 40 (zgE x.1).2],[]⟩)
theorem znN:zgW zdi Tryz.f51 (body Tryz.f51) ⟨[.own 40],[]⟩ [.pure (.lit (.slice none 0 0))]=some ⟨[.own 40 []],[]⟩:=by kernel_rfl
theorem zmT (p:Addr) (c:Nat):zgW zdi Tryz.f51 (body Tryz.f51) ⟨[.own 40],[]⟩ [.pure (.lit (.slice (some p) 0 c))]=some ⟨[.own 40 []],[]⟩:=by kernel_rfl
theorem znc (l:List Value):zgW zdi Tryz.f51 (body Tryz.f51) ⟨[.own 40],[]⟩ [.pure (.sl 40 l)]=bif !l.isEmpty then bif decide ((([]:List (ty 40)).length+l.length)*32≤reach) then some ⟨[.own 40 l],[]⟩ else none else none:=by kernel_rfl
theorem zm4:Sound Tryz.prog base 51 zhW:=
 zxn (cx':=zdi) (bytes:=32) zH zo ⟨⟨rfl,rfl,rfl,rfl,rfl,rfl⟩,rfl⟩ (fun g s h=>by cases h) Tryz.call51 Tryz.func51 (c:=body Tryz.f51) (by kernel_rfl) (zi (l:=[]) (by kernel_rfl) trivial) znN zmT znc (by kernel_rfl)
def zAQ:Cx ty:=mkCx base 17 [(51,zhW),(115,annotation_Substitute_spec)] [] [] [] [] []
def zuj (x_:Row) (a:List Term):Wy0 (Row):=.bn (zqz a []) fun r1=>.bn (zgE x_.Values) fun r0=>.k (⟨r0,r1.1⟩:Row)
def znx (x_:Row) (a:List Term):Bool×Row:=(zuj x_ a).fin default
def zsv (r:Row):ARes ty:=⟨[.pure (.agg (base.enc 38 r))],[]⟩
def zur:AL base (Row×List Term×Unit):=zf (zg (vAgg 38)) (zf (zg (vSl 152)) aNil)
def zrS:Ab.Spec ty:=zn zur fun x=>((znx x.1 x.2.1).1,zsv (znx x.1 x.2.1).2)
theorem zx9:Sound Tryz.prog base 76 zrS:=
 zy (cx':=zAQ) zH zo zD (zB ⟨zm4,ztj,trivial⟩) Tryz.call76 Tryz.func76 (c:=body Tryz.f76) (by kernel_rfl) (zi (l:=[]) (by kernel_rfl) trivial) (sg:=⟨[.pure],[]⟩) (A:=zur) (res:=zsv) (W:=fun x=>zuj x.1 x.2.1) (z:=default)
def zzK:Cx ty:=mkCx base 16 [(83,zg5)] [] [] [] [] []
def znW (p:pair):Wy0 (Bool):=.bn (zgH p.v) fun r0=>.i (!r0) (.k true) (.k (p.v.Kind != p.c.Type_))
def zh2 (p:pair):Bool×Bool:=(znW p).fin default
def zrw (r:Bool):ARes ty:=⟨[.pure (.lit (.bool r))],[]⟩
def ztP:AL base (pair×Unit):=zf (zg (vAgg 147)) aNil
def ziF:Ab.Spec ty:=zn ztP fun x=>((zh2 x.1).1,zrw (zh2 x.1).2)
theorem zkF:Sound Tryz.prog base 106 ziF:=
 zy (cx':=zzK) zH zo zD (zB ⟨zhz,trivial⟩) Tryz.call106 Tryz.func106 (c:=body Tryz.f106) (by kernel_rfl) (zi (l:=[]) (by kernel_rfl) trivial) (sg:=⟨[.pure],[]⟩) (A:=ztP) (res:=zrw) (W:=fun x=>znW x.1) (z:=default)
abbrev ttTrelationzip0:=List Column×Unit×List Value×Int×Int×Unit
abbrev ttTrelationzip1:=List pair×Unit
def zrr (l:List Column) (t8:List Value) (t9:Int) (t10:Int) (out_:List pair):Wy ttTrelationzip0 ttTrelationzip1 (List pair):=.i (decide (t10<t9)) (.i (decide (0≤t10)&&decide (t10<Int.ofNat t8.length)) (.i (decide (0≤t10)&&decide (t10<Int.ofNat l.length)) (.i (decide ((out_.length+[pair.mk (l.getD t10.toNat default) (t8.getD t10.toNat default)].length)*56≤reach)) (.h (l,(),t8,t9,(IntKind.i64.wrap (t10+1)),()) ((out_++[pair.mk (l.getD t10.toNat default) (t8.getD t10.toNat default)]),())) .d) .d) .d) (.k out_)
def znk (x:ttTrelationzip0) (y:ttTrelationzip1):Wy ttTrelationzip0 ttTrelationzip1 (List pair):=zrr x.1 x.2.2.1 x.2.2.2.1 x.2.2.2.2.1 y.1
def zrE (n:Nat) (l:List Column) (t8:List Value) (t9:Int) (t10:Int) (out_:List pair):Bool×List pair:=zO (znk) default n (l,(),t8,t9,t10,()) (out_,())
def zvc (r:List pair):LTree ty:=.done (.exit 0) [.own 104] [.arr 147 r false]
def zwl:LL ty ttTrelationzip0:=za (lSl 67) (za (lOwn 104) (za (lSl 40) (za (lInt .i64) (za (lInt .i64) zF))))
def zwi:BL ty ttTrelationzip1:=bArr 147 false (bNil)
def zvy (x:ttTrelationzip0) (y:ttTrelationzip1):Nat:=(x.1.length+x.2.2.1.length+Int.toNat x.2.2.2.1+Int.toNat x.2.2.2.2.1+y.1.length+1000)
def zwk:Cx ty:=mkCx base 26 [] [] [(3,[(0,.keep),(5,.own 147),(8,.keep),(9,.keep),(10,.keep)])] [(3,1,[(5,.keep)])] [(3,spW zwl zwi (znk) default zvc zvy)] []
theorem zBZ:zX zwk (lp (body Tryz.f105) 0):=zN (id:=3) (V:=zwl) (B:=zwi) (W:=znk) (z:=default) (tr:=zvc) (m:=zvy)
def zsP (l:List Column) (row:List Value):Wy0 (List pair):=.bn (zrE (l.length+row.length+(Int.ofNat row.length).toNat +Int.toNat 0+0+1000) l row (Int.ofNat row.length) 0 []) fun r0=>.k r0
def zn8 (l:List Column) (row:List Value):Bool×List pair:=(zsP l row).fin default
def zvO (r:List pair):ARes ty:=⟨[.own 147 r],[]⟩
def zxu:AL base (List Column×List Value×Unit):=zf (zg (vSl 67)) (zf (zg (vSl 40)) aNil)
def zus:Ab.Spec ty:=zn zxu fun x=>((zn8 x.1 x.2.1).1,zvO (zn8 x.1 x.2.1).2)
theorem zAr:Sound Tryz.prog base 105 zus:=
 zy (cx':=zwk) zH zo zD (zB trivial) Tryz.call105 Tryz.func105 (c:=body Tryz.f105) (by kernel_rfl) (zi (l:=[lp (body Tryz.f105) 0]) (by kernel_rfl) ⟨zBZ,trivial⟩) (sg:=⟨[.own 147],[]⟩) (A:=zxu) (res:=zvO) (W:=fun x=>zsP x.1 x.2.1) (z:=default)
abbrev ttTslicesIndexFuncLrelationpairrelationpairfi0:=List pair×Unit×Int×Int×Unit
def zjc (s:List pair) (t7:Int) (t8:Int):Wy ttTslicesIndexFuncLrelationpairrelationpairfi0 (Unit) (Int⊕Unit):=.i (decide (t8<t7)) (.i (decide (0≤t8)&&decide (t8<Int.ofNat s.length)) (.bn (zh2 (s.getD t8.toNat default)) fun r0=>.i (r0) (.k (.inl t8)) (.h (s,(),t7,(IntKind.i64.wrap (t8+1)),()) ())) .d) (.k (.inr ()))
def zcD (x:ttTslicesIndexFuncLrelationpairrelationpairfi0) (y:Unit):Wy ttTslicesIndexFuncLrelationpairrelationpairfi0 (Unit) (Int⊕Unit):=zjc x.1 x.2.2.1 x.2.2.2.1
def zja (n:Nat) (s:List pair) (t7:Int) (t8:Int):Bool×(Int⊕Unit):=zO (zcD) (.inl default) n (s,(),t7,t8,()) ()
def zeu (r:Int⊕Unit):LTree ty:=.ite (isL r) (.done .ret [.lit (.int .i64 (getL r))] []) (.done (.exit 0) [] [])
def zeJ:LL ty ttTslicesIndexFuncLrelationpairrelationpairfi0:=za (lSl 147) (za (lFn 106 (zF)) (za (lInt .i64) (za (lInt .i64) zF)))
def zeH:BL ty (Unit):=bNil
def zer (x:ttTslicesIndexFuncLrelationpairrelationpairfi0) (y:Unit):Nat:=(x.1.length+Int.toNat x.2.2.1+Int.toNat x.2.2.2.1+1000)
def zeC:Cx ty:=mkCx base 19 [(106,ziF)] [] [(2,[(0,.keep),(1,.keep),(7,.keep),(8,.keep)])] [(2,1,[]),(2,0,[(4,.keep)])] [(2,spW zeJ zeH (zcD) (.inl default) zeu zer)] []
theorem ziX:zX zeC (lp (body Tryz.f135) 0):=zN (id:=2) (V:=zeJ) (B:=zeH) (W:=zcD) (z:=.inl default) (tr:=zeu) (m:=zer)
def zeX (s:List pair):Wy0 (Int):=.bn (zja (s.length+(Int.ofNat s.length).toNat +Int.toNat 0+1000) s (Int.ofNat s.length) 0) fun r2=>.i (isL r2) (.k (getL r2)) (.k (-1:Int))
def zbQ (s:List pair):Bool×Int:=(zeX s).fin default
def zev (r:Int):ARes ty:=⟨[.pure (.lit (.int .i64 r))],[]⟩
def zeZ:AL base (List pair×Unit×Unit):=zf (zg (vSl 147)) (zf (zg (vFn 106 vNil)) aNil)
def zei:Ab.Spec ty:=zn zeZ fun x=>((zbQ x.1).1,zev (zbQ x.1).2)
theorem zin:Sound Tryz.prog base 135 zei:=
 zy (cx':=zeC) zH zo zD (zB ⟨zkF,trivial⟩) Tryz.call135 Tryz.func135 (c:=body Tryz.f135) (by kernel_rfl) (zi (l:=[lp (body Tryz.f135) 0]) (by kernel_rfl) ⟨ziX,trivial⟩) (sg:=⟨[.pure],[]⟩) (A:=zeZ) (res:=zev) (W:=fun x=>zeX x.1) (z:=default)
def zil:Cx ty:=mkCx base 9 [(106,ziF),(135,zei)] [] [] [] [] []
def zci (s:List pair):Wy0 (Bool):=.bn (zbQ s) fun r0=>.k (decide (r0≥0))
def zbf (s:List pair):Bool×Bool:=(zci s).fin default
def zdU (r:Bool):ARes ty:=⟨[.pure (.lit (.bool r))],[]⟩
def zek:AL base (List pair×Unit×Unit):=zf (zg (vSl 147)) (zf (zg (vFn 106 vNil)) aNil)
def zdM:Ab.Spec ty:=zn zek fun x=>((zbf x.1).1,zdU (zbf x.1).2)
theorem zhU:Sound Tryz.prog base 104 zdM:=
 zy (cx':=zil) zH zo zD (zB ⟨zkF,zin,trivial⟩) Tryz.call104 Tryz.func104 (c:=body Tryz.f104) (by kernel_rfl) (zi (l:=[]) (by kernel_rfl) trivial) (sg:=⟨[.pure],[]⟩) (A:=zek) (res:=zdU) (W:=fun x=>zci x.1) (z:=default)
def zB5:Cx ty:=mkCx base 17 [(104,zdM),(105,zus),(106,ziF)] [] [] [] [] []
def zra (l:List Column) (row:List Value):Wy0 (Bool):=.i (Int.ofNat l.length==Int.ofNat row.length) (.bn (zn8 l row) fun r1=>.bn (zbf r1) fun r0=>.k (!r0)) (.k false)
def zkp (l:List Column) (row:List Value):Bool×Bool:=(zra l row).fin default
def zuq (r:Bool):ARes ty:=⟨[.pure (.lit (.bool r))],[]⟩
def zwE:AL base (List Column×List Value×Unit):=zf (zg (vSl 67)) (zf (zg (vSl 40)) aNil)
def zs7:Ab.Spec ty:=zn zwE fun x=>((zkp x.1 x.2.1).1,zuq (zkp x.1 x.2.1).2)
theorem zzI:Sound Tryz.prog base 68 zs7:=
 zy (cx':=zB5) zH zo zD (zB ⟨zhU,zAr,zkF,trivial⟩) Tryz.call68 Tryz.func68 (c:=body Tryz.f68) (by kernel_rfl) (zi (l:=[]) (by kernel_rfl) trivial) (sg:=⟨[.pure],[]⟩) (A:=zwE) (res:=zuq) (W:=fun x=>zra x.1 x.2.1) (z:=default)
def zDv:Cx ty:=mkCx base 2 [] [] [] [] [] []
def zzi:Wy0 (List ByteArray):=.k [ByteArray.mk #[(73:UInt8),(78:UInt8),(84:UInt8),(69:UInt8),(71:UInt8),(69:UInt8),(82:UInt8)],ByteArray.mk #[(84:UInt8),(69:UInt8),(88:UInt8),(84:UInt8)],ByteArray.mk #[(66:UInt8),(79:UInt8),(79:UInt8),(76:UInt8),(69:UInt8),(65:UInt8),(78:UInt8)]]
def zs5:Bool×List ByteArray:=(zzi).fin default
def zwL (r:List ByteArray):ARes ty:=⟨[.own 9 r],[]⟩
def zzc:AL base (Unit):=aNil
def zvb:Ab.Spec ty:=zn zzc fun x=>((zs5 ).1,zwL (zs5 ).2)
theorem zBe:Sound Tryz.prog base 134 zvb:=
 zy (cx':=zDv) zH zo zD (zB trivial) Tryz.call134 Tryz.func134 (c:=body Tryz.f134) (by kernel_rfl) (zi (l:=[]) (by kernel_rfl) trivial) (sg:=⟨[.own 9],[]⟩) (A:=zzc) (res:=zwL) (W:=fun x=>zzi ) (z:=default)
def zBf:Cx ty:=mkCx base 13 [(134,zvb)] [] [] [] [] []
def zmw (kind:Int):Wy0 (ByteArray):=.i (decide (kind<0)) (.k (ByteArray.mk #[])) (.i (decide (kind>2)) (.k (ByteArray.mk #[])) (.i (decide (0≤kind)&&decide (kind<Int.ofNat zs5.2.length)) (.k (zs5.2.getD kind.toNat default)) .d))
def zlJ (kind:Int):Bool×ByteArray:=(zmw kind).fin default
def ztc (r:ByteArray):ARes ty:=⟨[.pure (.lit (.string r))],[]⟩
def zvU:AL base (Int×Unit):=zf (zg (vInt .i64)) aNil
def zso:Ab.Spec ty:=zn zvU fun x=>((zlJ x.1).1,ztc (zlJ x.1).2)
theorem zyE:Sound Tryz.prog base 103 zso:=
 zy (cx':=zBf) zH zo zD (zB ⟨zBe,trivial⟩) Tryz.call103 Tryz.func103 (c:=body Tryz.f103) (by kernel_rfl) (zi (l:=[]) (by kernel_rfl) trivial) (sg:=⟨[.pure],[]⟩) (A:=zvU) (res:=ztc) (W:=fun x=>zmw x.1) (z:=default)
def zte:Cx ty:=mkCx base 7 [(103,zso)] [] [] [] [] []
def zgV (c:Column):Wy0 (Bool):=.bn (zlJ c.Type_) fun r0=>.k (r0.toList==(ByteArray.mk #[]).toList)
def zbd (c:Column):Bool×Bool:=(zgV c).fin default
def zlE (r:Bool):ARes ty:=⟨[.pure (.lit (.bool r))],[]⟩
def zmY:AL base (Column×Unit):=zf (zg (vAgg 67)) aNil
def zfk:Ab.Spec ty:=zn zmY fun x=>((zbd x.1).1,zlE (zbd x.1).2)
theorem zhp:Sound Tryz.prog base 102 zfk:=
 zy (cx':=zte) zH zo zD (zB ⟨zyE,trivial⟩) Tryz.call102 Tryz.func102 (c:=body Tryz.f102) (by kernel_rfl) (zi (l:=[]) (by kernel_rfl) trivial) (sg:=⟨[.pure],[]⟩) (A:=zmY) (res:=zlE) (W:=fun x=>zgV x.1) (z:=default)
abbrev ttTslicesIndexFuncLapiColumnapiColumnvc0:=List Column×Unit×Int×Int×Unit
def zky (s:List Column) (t7:Int) (t8:Int):Wy ttTslicesIndexFuncLapiColumnapiColumnvc0 (Unit) (Int⊕Unit):=.i (decide (t8<t7)) (.i (decide (0≤t8)&&decide (t8<Int.ofNat s.length)) (.bn (zbd (s.getD t8.toNat default)) fun r0=>.i (r0) (.k (.inl t8)) (.h (s,(),t7,(IntKind.i64.wrap (t8+1)),()) ())) .d) (.k (.inr ()))
def zdh (x:ttTslicesIndexFuncLapiColumnapiColumnvc0) (y:Unit):Wy ttTslicesIndexFuncLapiColumnapiColumnvc0 (Unit) (Int⊕Unit):=zky x.1 x.2.2.1 x.2.2.2.1
def zkC (n:Nat) (s:List Column) (t7:Int) (t8:Int):Bool×(Int⊕Unit):=zO (zdh) (.inl default) n (s,(),t7,t8,()) ()
def zf8 (r:Int⊕Unit):LTree ty:=.ite (isL r) (.done .ret [.lit (.int .i64 (getL r))] []) (.done (.exit 0) [] [])
def zgh:LL ty ttTslicesIndexFuncLapiColumnapiColumnvc0:=za (lSl 67) (za (lFn 102 (zF)) (za (lInt .i64) (za (lInt .i64) zF)))
def zgw:BL ty (Unit):=bNil
def zf6 (x:ttTslicesIndexFuncLapiColumnapiColumnvc0) (y:Unit):Nat:=(x.1.length+Int.toNat x.2.2.1+Int.toNat x.2.2.2.1+1000)
def zgr:Cx ty:=mkCx base 19 [(102,zfk)] [] [(2,[(0,.keep),(1,.keep),(7,.keep),(8,.keep)])] [(2,1,[]),(2,0,[(4,.keep)])] [(2,spW zgh zgw (zdh) (.inl default) zf8 zf6)] []
theorem zkg:zX zgr (lp (body Tryz.f133) 0):=zN (id:=2) (V:=zgh) (B:=zgw) (W:=zdh) (z:=.inl default) (tr:=zf8) (m:=zf6)
def zgP (s:List Column):Wy0 (Int):=.bn (zkC (s.length+(Int.ofNat s.length).toNat +Int.toNat 0+1000) s (Int.ofNat s.length) 0) fun r2=>.i (isL r2) (.k (getL r2)) (.k (-1:Int))
def zco (s:List Column):Bool×Int:=(zgP s).fin default
def zf3 (r:Int):ARes ty:=⟨[.pure (.lit (.int .i64 r))],[]⟩
def zgM:AL base (List Column×Unit×Unit):=zf (zg (vSl 67)) (zf (zg (vFn 102 vNil)) aNil)
def zfH:Ab.Spec ty:=zn zgM fun x=>((zco x.1).1,zf3 (zco x.1).2)
theorem zj1:Sound Tryz.prog base 133 zfH:=
 zy (cx':=zgr) zH zo zD (zB ⟨zhp,trivial⟩) Tryz.call133 Tryz.func133 (c:=body Tryz.f133) (by kernel_rfl) (zi (l:=[lp (body Tryz.f133) 0]) (by kernel_rfl) ⟨zkg,trivial⟩) (sg:=⟨[.pure],[]⟩) (A:=zgM) (res:=zf3) (W:=fun x=>zgP x.1) (z:=default)
def zj2:Cx ty:=mkCx base 9 [(102,zfk),(133,zfH)] [] [] [] [] []
def zcY (s:List Column):Wy0 (Bool):=.bn (zco s) fun r0=>.k (decide (r0≥0))
def zbt (s:List Column):Bool×Bool:=(zcY s).fin default
def zfi (r:Bool):ARes ty:=⟨[.pure (.lit (.bool r))],[]⟩
def zfQ:AL base (List Column×Unit×Unit):=zf (zg (vSl 67)) (zf (zg (vFn 102 vNil)) aNil)
def zeV:Ab.Spec ty:=zn zfQ fun x=>((zbt x.1).1,zfi (zbt x.1).2)
theorem zi7:Sound Tryz.prog base 101 zeV:=
 zy (cx':=zj2) zH zo zD (zB ⟨zhp,zj1,trivial⟩) Tryz.call101 Tryz.func101 (c:=body Tryz.f101) (by kernel_rfl) (zi (l:=[]) (by kernel_rfl) trivial) (sg:=⟨[.pure],[]⟩) (A:=zfQ) (res:=zfi) (W:=fun x=>zcY x.1) (z:=default)
def zvQ:Cx ty:=mkCx base 11 [(101,zeV),(102,zfk)] [] [] [] [] []
def zj9 (l:List Column):Wy0 (Bool):=.i (decide (Int.ofNat l.length≤16)) (.bn (zbt l) fun r0=>.k (!r0)) (.k false)
def zg7 (l:List Column):Bool×Bool:=(zj9 l).fin default
def znv (r:Bool):ARes ty:=⟨[.pure (.lit (.bool r))],[]⟩
def zoH:AL base (List Column×Unit):=zf (zg (vSl 67)) aNil
def zmV:Ab.Spec ty:=zn zoH fun x=>((zg7 x.1).1,znv (zg7 x.1).2)
theorem zty:Sound Tryz.prog base 67 zmV:=
 zy (cx':=zvQ) zH zo zD (zB ⟨zi7,zhp,trivial⟩) Tryz.call67 Tryz.func67 (c:=body Tryz.f67) (by kernel_rfl) (zi (l:=[]) (by kernel_rfl) trivial) (sg:=⟨[.pure],[]⟩) (A:=zoH) (res:=znv) (W:=fun x=>zj9 x.1) (z:=default)
def zcS:Cx ty:={ base with nt:=8 }
def zcl (s:List Column):Bool×List Column:=(decide (s.length*24≤reach),s)
def zhn:Ab.Spec ty:=zn (cx:=base) (zf (zg (vSl 67)) aNil) fun x=>((zcl x.1).1,⟨[.own 67 (zcl x.1).2],[]⟩)
theorem zmW:zgW zcS Tryz.f75 (body Tryz.f75) ⟨[.own 67],[]⟩ [.pure (.lit (.slice none 0 0))]=some ⟨[.own 67 []],[]⟩:=by kernel_rfl
theorem zlN (p:Addr) (c:Nat):zgW zcS Tryz.f75 (body Tryz.f75) ⟨[.own 67],[]⟩ [.pure (.lit (.slice (some p) 0 c))]=some ⟨[.own 67 []],[]⟩:=by kernel_rfl
theorem zmv (l:List Column):zgW zcS Tryz.f75 (body Tryz.f75) ⟨[.own 67],[]⟩ [.pure (.sl 67 l)]=bif !l.isEmpty then bif decide ((([]:List (ty 67)).length+l.length)*24≤reach) then some ⟨[.own 67 l],[]⟩ else none else none:=by kernel_rfl
theorem zlL:Sound Tryz.prog base 75 zhn:=
 zxn (cx':=zcS) (bytes:=24) zH zo ⟨⟨rfl,rfl,rfl,rfl,rfl,rfl⟩,rfl⟩ (fun g s h=>by cases h) Tryz.call75 Tryz.func75 (c:=body Tryz.f75) (by kernel_rfl) (zi (l:=[]) (by kernel_rfl) trivial) zmW zlN zmv (by kernel_rfl)
def zeg:Cx ty:={ base with nt:=8 }
def zbV (s:List Row):Bool×List Row:=(decide (s.length*48≤reach),s)
def zjg:Ab.Spec ty:=zn (cx:=base) (zf (zg (vSl 38)) aNil) fun x=>((zbV x.1).1,⟨[.own 38 (zbV x.1).2],[]⟩)
theorem zpw:zgW zeg Tryz.f71 (body Tryz.f71) ⟨[.own 38],[]⟩ [.pure (.lit (.slice none 0 0))]=some ⟨[.own 38 []],[]⟩:=by kernel_rfl
theorem zot (p:Addr) (c:Nat):zgW zeg Tryz.f71 (body Tryz.f71) ⟨[.own 38],[]⟩ [.pure (.lit (.slice (some p) 0 c))]=some ⟨[.own 38 []],[]⟩:=by kernel_rfl
theorem zo9 (l:List Row):zgW zeg Tryz.f71 (body Tryz.f71) ⟨[.own 38],[]⟩ [.pure (.sl 38 l)]=bif !l.isEmpty then bif decide ((([]:List (ty 38)).length+l.length)*48≤reach) then some ⟨[.own 38 l],[]⟩ else none else none:=by kernel_rfl
theorem zoz:Sound Tryz.prog base 71 zjg:=
 zxn (cx':=zeg) (bytes:=48) zH zo ⟨⟨rfl,rfl,rfl,rfl,rfl,rfl⟩,rfl⟩ (fun g s h=>by cases h) Tryz.call71 Tryz.func71 (c:=body Tryz.f71) (by kernel_rfl) (zi (l:=[]) (by kernel_rfl) trivial) zpw zot zo9 (by kernel_rfl)
end Go.Proofs.YtddkaehkimnklaaGreatDoor
end
