/- Texts of this claim, joined (the program, its functions in plain words, and what they compute). -/
import Derived.Test.YtddkaehkimnklaaGreatDoorGC1
import Derived.Test.YtddkaehkimnklaaGreatDoorGA3
import Derived.Test.YtddkaehkimnklaaGreatDoorGC2
set_option autoImplicit false
set_option linter.unusedVariables false
set_option linter.unusedSectionVars false
set_option linter.unusedSimpArgs false
set_option maxRecDepth 1000000
set_option maxHeartbeats 0
noncomputable section
namespace Go.Proofs.YtddkaehkimnklaaGreatDoor
open Go Go.Ab
abbrev ttTannotationValid0:=List Term×Unit×List Term×Int×Int×List Factor×Int×Int×Unit
abbrev ttTannotationValid1:=Bool⊕(List Term×List Term×Int×Int)
abbrev ttTannotationValid2:=List Term×List Term×Int×Int×Unit
def zyd (zp:Atom→Bool×Bool) (a:List Term) (t10:List Term) (t11:Int) (t12:Int) (t40:List Factor) (t41:Int) (t42:Int) (t:Term):Wy ttTannotationValid0 (Term×Unit) ttTannotationValid1:=.i (decide (t42<t41)) (.i (decide (0≤t42)&&decide (t42<Int.ofNat t40.length)) (.i (decide ((t40.getD t42.toNat default).Exp<1)) (.k (.inl false)) (.bn (ziq (Atom.mk (t40.getD t42.toNat default).Atom.Kind (t40.getD t42.toNat default).Atom.Row (t40.getD t42.toNat default).Atom.Args (t40.getD t42.toNat default).Atom.Func (t40.getD t42.toNat default).Atom.Items (t40.getD t42.toNat default).Atom.Op (t40.getD t42.toNat default).Atom.Bound)) fun r6=>.i (r6) (.i ((t40.getD t42.toNat default).Exp != 1) (.k (.inl false)) (.i (decide (t42>0)) (.i (decide (0≤IntKind.i64.wrap (t42 - 1))&&decide (IntKind.i64.wrap (t42 - 1)<Int.ofNat t.Factors.length)) (.bn (zjV (Atom.mk (t.Factors.getD (IntKind.i64.wrap (t42 - 1)).toNat default).Atom.Kind (t.Factors.getD (IntKind.i64.wrap (t42 - 1)).toNat default).Atom.Row (t.Factors.getD (IntKind.i64.wrap (t42 - 1)).toNat default).Atom.Args (t.Factors.getD (IntKind.i64.wrap (t42 - 1)).toNat default).Atom.Func (t.Factors.getD (IntKind.i64.wrap (t42 - 1)).toNat default).Atom.Items (t.Factors.getD (IntKind.i64.wrap (t42 - 1)).toNat default).Atom.Op (t.Factors.getD (IntKind.i64.wrap (t42 - 1)).toNat default).Atom.Bound) (Atom.mk (t40.getD t42.toNat default).Atom.Kind (t40.getD t42.toNat default).Atom.Row (t40.getD t42.toNat default).Atom.Args (t40.getD t42.toNat default).Atom.Func (t40.getD t42.toNat default).Atom.Items (t40.getD t42.toNat default).Atom.Op (t40.getD t42.toNat default).Atom.Bound)) fun r1=>.i (decide (r1≥0)) (.k (.inl false)) (.bn (zp (Atom.mk (t40.getD t42.toNat default).Atom.Kind (t40.getD t42.toNat default).Atom.Row (t40.getD t42.toNat default).Atom.Args (t40.getD t42.toNat default).Atom.Func (t40.getD t42.toNat default).Atom.Items (t40.getD t42.toNat default).Atom.Op (t40.getD t42.toNat default).Atom.Bound)) fun r0=>.i (!r0) (.k (.inl false)) (.h (a,(),t10,t11,t12,t40,t41,(IntKind.i64.wrap (t42+1)),()) (t,())))) .d) (.bn (zp (Atom.mk (t40.getD t42.toNat default).Atom.Kind (t40.getD t42.toNat default).Atom.Row (t40.getD t42.toNat default).Atom.Args (t40.getD t42.toNat default).Atom.Func (t40.getD t42.toNat default).Atom.Items (t40.getD t42.toNat default).Atom.Op (t40.getD t42.toNat default).Atom.Bound)) fun r2=>.i (!r2) (.k (.inl false)) (.h (a,(),t10,t11,t12,t40,t41,(IntKind.i64.wrap (t42+1)),()) (t,()))))) (.i (decide (t42>0)) (.i (decide (0≤IntKind.i64.wrap (t42 - 1))&&decide (IntKind.i64.wrap (t42 - 1)<Int.ofNat t.Factors.length)) (.bn (zjV (Atom.mk (t.Factors.getD (IntKind.i64.wrap (t42 - 1)).toNat default).Atom.Kind (t.Factors.getD (IntKind.i64.wrap (t42 - 1)).toNat default).Atom.Row (t.Factors.getD (IntKind.i64.wrap (t42 - 1)).toNat default).Atom.Args (t.Factors.getD (IntKind.i64.wrap (t42 - 1)).toNat default).Atom.Func (t.Factors.getD (IntKind.i64.wrap (t42 - 1)).toNat default).Atom.Items (t.Factors.getD (IntKind.i64.wrap (t42 - 1)).toNat default).Atom.Op (t.Factors.getD (IntKind.i64.wrap (t42 - 1)).toNat default).Atom.Bound) (Atom.mk (t40.getD t42.toNat default).Atom.Kind (t40.getD t42.toNat default).Atom.Row (t40.getD t42.toNat default).Atom.Args (t40.getD t42.toNat default).Atom.Func (t40.getD t42.toNat default).Atom.Items (t40.getD t42.toNat default).Atom.Op (t40.getD t42.toNat default).Atom.Bound)) fun r4=>.i (decide (r4≥0)) (.k (.inl false)) (.bn (zp (Atom.mk (t40.getD t42.toNat default).Atom.Kind (t40.getD t42.toNat default).Atom.Row (t40.getD t42.toNat default).Atom.Args (t40.getD t42.toNat default).Atom.Func (t40.getD t42.toNat default).Atom.Items (t40.getD t42.toNat default).Atom.Op (t40.getD t42.toNat default).Atom.Bound)) fun r3=>.i (!r3) (.k (.inl false)) (.h (a,(),t10,t11,t12,t40,t41,(IntKind.i64.wrap (t42+1)),()) (t,())))) .d) (.bn (zp (Atom.mk (t40.getD t42.toNat default).Atom.Kind (t40.getD t42.toNat default).Atom.Row (t40.getD t42.toNat default).Atom.Args (t40.getD t42.toNat default).Atom.Func (t40.getD t42.toNat default).Atom.Items (t40.getD t42.toNat default).Atom.Op (t40.getD t42.toNat default).Atom.Bound)) fun r5=>.i (!r5) (.k (.inl false)) (.h (a,(),t10,t11,t12,t40,t41,(IntKind.i64.wrap (t42+1)),()) (t,())))))) .d) (.k (.inr (a,t10,t11,t12)))
def zll (zp:Atom→Bool×Bool) (x:ttTannotationValid0) (y:Term×Unit):Wy ttTannotationValid0 (Term×Unit) ttTannotationValid1:=zyd zp x.1 x.2.2.1 x.2.2.2.1 x.2.2.2.2.1 x.2.2.2.2.2.1 x.2.2.2.2.2.2.1 x.2.2.2.2.2.2.2.1 y.1
def zqD (zp:Atom→Bool×Bool) (n:Nat) (a:List Term) (t10:List Term) (t11:Int) (t12:Int) (t40:List Factor) (t41:Int) (t42:Int) (t:Term):Bool×ttTannotationValid1:=zM (zll zp) (.inl default) n (a,(),t10,t11,t12,t40,t41,t42,()) (t,())
def zp3 (r:ttTannotationValid1):LTree ty:=.ite (isL r) (.done .ret [.lit (.bool (getL r))] []) (.done (.exit 2) [.sl 152 (getR r).1,.sl 152 (getR r).2.1,.lit (.int .i64 (getR r).2.2.1),.lit (.int .i64 (getR r).2.2.2)] [])
def zqF:LL ty ttTannotationValid0:=za (lSl 152) (za (zb2 340 0) (za (lSl 152) (za (lInt .i64) (za (lInt .i64) (za (lSl 160) (za (lInt .i64) (za (lInt .i64) zD)))))))
def zqH:BL ty (Term×Unit):=bBox (zdo (fun x=>(⟨x.1,x.2.1⟩:Term)) (fun x=>(x.Coeff,x.Factors,())) (fun _=>rfl) (za (lInt .i64) (za (lSl 160) zD))) false (bNil)
def zyE (zp:Atom→Bool×Bool) (a:List Term) (t10:List Term) (t11:Int) (t12:Int):Wy ttTannotationValid2 (Unit) (Bool⊕Unit):=.i (decide (t12<t11)) (.i (decide (0≤t12)&&decide (t12<Int.ofNat t10.length)) (.i (decide ((t10.getD t12.toNat default).Coeff<1)) (.k (.inl false)) (.i (decide ((t10.getD t12.toNat default).Coeff>1152921504606846976)) (.k (.inl false)) (.i (decide (t12>0)) (.i (decide (0≤IntKind.i64.wrap (t12 - 1))&&decide (IntKind.i64.wrap (t12 - 1)<Int.ofNat a.length)) (.bn (zpe (a.getD (IntKind.i64.wrap (t12 - 1)).toNat default) (t10.getD t12.toNat default)) fun r15=>.i (decide (r15≥0)) (.k (.inl false)) (.bn (zqD zp (a.length+t10.length+t11.toNat +t12.toNat +(t10.getD t12.toNat default).Factors.length+(Int.ofNat (t10.getD t12.toNat default).Factors.length).toNat +Int.toNat 0+(t10.getD t12.toNat default).Factors.length+1000) a t10 t11 t12 (t10.getD t12.toNat default).Factors (Int.ofNat (t10.getD t12.toNat default).Factors.length) 0 (t10.getD t12.toNat default)) fun r14=>.i (isL r14) (.k (.inl (getL r14))) (.h ((getR r14).1,(getR r14).2.1,(getR r14).2.2.1,(IntKind.i64.wrap ((getR r14).2.2.2+1)),()) ()))) .d) (.bn (zqD zp (a.length+t10.length+t11.toNat +t12.toNat +(t10.getD t12.toNat default).Factors.length+(Int.ofNat (t10.getD t12.toNat default).Factors.length).toNat +Int.toNat 0+(t10.getD t12.toNat default).Factors.length+1000) a t10 t11 t12 (t10.getD t12.toNat default).Factors (Int.ofNat (t10.getD t12.toNat default).Factors.length) 0 (t10.getD t12.toNat default)) fun r16=>.i (isL r16) (.k (.inl (getL r16))) (.h ((getR r16).1,(getR r16).2.1,(getR r16).2.2.1,(IntKind.i64.wrap ((getR r16).2.2.2+1)),()) ()))))) .d) (.k (.inr ()))
def zkS (zp:Atom→Bool×Bool) (x:ttTannotationValid2) (y:Unit):Wy ttTannotationValid2 (Unit) (Bool⊕Unit):=zyE zp x.1 x.2.1 x.2.2.1 x.2.2.2.1
def zya (zp:Atom→Bool×Bool) (n:Nat) (a:List Term) (t10:List Term) (t11:Int) (t12:Int):Bool×(Bool⊕Unit):=zM (zkS zp) (.inl default) n (a,t10,t11,t12,()) ()
def zqf (r:Bool⊕Unit):LTree ty:=.ite (isL r) (.done .ret [.lit (.bool (getL r))] []) (.done (.exit 0) [] [])
def zqK:LL ty ttTannotationValid2:=za (lSl 152) (za (lSl 152) (za (lInt .i64) (za (lInt .i64) zD)))
def zq7:BL ty (Unit):=bNil
def zpZ (x:ttTannotationValid0) (y:Term×Unit):Nat:=(x.1.length+x.2.2.1.length+Int.toNat x.2.2.2.1+Int.toNat x.2.2.2.2.1+x.2.2.2.2.2.1.length+Int.toNat x.2.2.2.2.2.2.1+Int.toNat x.2.2.2.2.2.2.2.1+y.1.Factors.length+1000)
def zqc (x:ttTannotationValid2) (y:Unit):Nat:=(x.1.length+x.2.1.length+Int.toNat x.2.2.1+Int.toNat x.2.2.2.1+1000)
def zlf (zp:Atom→Bool×Bool):Cx ty:=mkCx base 85 [(107,zqd),(108,annotation_compareLists_spec),(109,ziA),(110,annotation_compareAtoms_spec),(111,(zh2 zp))] [] [(4,[(0,.keep),(10,.keep),(11,.keep),(12,.keep)]),(9,[(0,.keep),(4,.keep),(10,.keep),(11,.keep),(12,.keep),(40,.keep),(41,.keep),(42,.keep)])] [(4,1,[]),(4,0,[(2,.keep)]),(9,3,[(0,.keep),(10,.keep),(11,.keep),(12,.keep)]),(9,0,[(2,.keep)])] [(9,spW zqF zqH (zll zp) (.inl default) zp3 zpZ),(4,spW zqK zq7 (zkS zp) (.inl default) zqf zqc)] []
theorem zxK (zp:Atom→Bool×Bool):zU (zlf zp) (lp (body Tryz.f69) 1):=zL (id:=9) (V:=zqF) (B:=zqH) (W:=zll zp) (z:=.inl default) (tr:=zp3) (m:=zpZ)
theorem zxC (zp:Atom→Bool×Bool):zU (zlf zp) (lp (body Tryz.f69) 0):=zL (id:=4) (V:=zqK) (B:=zq7) (W:=zkS zp) (z:=.inl default) (tr:=zqf) (m:=zqc)
def zr8 (zp:Atom→Bool×Bool) (a:List Term):Wy0 (Bool):=.bn (zpD a) fun r21=>.i (!r21) (.k false) (.bn (zya zp (a.length+a.length+(Int.ofNat a.length).toNat +Int.toNat 0+1000) a a (Int.ofNat a.length) 0) fun r20=>.i (isL r20) (.k (getL r20)) (.k true))
def ztU (zp:Atom→Bool×Bool) (a:List Term):Bool×Bool:=(zr8 zp a).fin default
theorem zvL (zp:Atom→Bool×Bool) (zvO:Sound Tryz.prog base 111 (zh2 zp)):Sound Tryz.prog base 69 (ze9 (ztU zp)):=
 zx (cx':=(zlf zp)) zH zo zF (zA ⟨zwB,zss,zlE,zsr,zvO,trivial⟩) Tryz.call69 Tryz.func69 (c:=body Tryz.f69) (by kernel_rfl) (zi (l:=[lp (body Tryz.f69) 0,lp (body Tryz.f69) 1]) (by kernel_rfl) ⟨zxC zp,zxK zp,trivial⟩) (sg:=⟨[.pure],[]⟩) (A:=zt2) (res:=zrt) (W:=fun x=>zr8 zp x.1) (z:=default)
def zz5:Cx ty:=mkCx base 9 [(145,annotation_Compare_spec)] [] [] [] [] []
def ztl (a:List Term) (b:List Term):Wy0 (Bool):=.bn (zt4 a b) fun r0=>.k (r0==0)
def zqq (a:List Term) (b:List Term):Bool×Bool:=(ztl a b).fin default
def zsf (r:Bool):ARes ty:=⟨[.pure (.lit (.bool r))],[]⟩
def zt9:AL base (List Term×List Term×Unit):=zf (zg (vSl 152)) (zf (zg (vSl 152)) aNil)
def zq4:Ab.Spec ty:=zn zt9 fun x=>((zqq x.1 x.2.1).1,zsf (zqq x.1 x.2.1).2)
theorem zxz:Sound Tryz.prog base 151 zq4:=
 zx (cx':=zz5) zH zo zF (zA ⟨zvx,trivial⟩) Tryz.call151 Tryz.func151 (c:=body Tryz.f151) (by kernel_rfl) (zi (l:=[]) (by kernel_rfl) trivial) (sg:=⟨[.pure],[]⟩) (A:=zt9) (res:=zsf) (W:=fun x=>ztl x.1 x.2.1) (z:=default)
def zwe:Cx ty:=mkCx base 27 [(83,zgM)] [] [] [] [] []
def zoX (w:Weighted) (p1:Value) (p2:Int):Wy0 (Bool):=.bn (zgw w.Value) fun r0=>.i (!r0) (.k true) (.i (w.Value.Kind != p1.Kind) (.k true) (.i (p2==0) (.k (w.Value.Int != 1)) (.k false)))
def zlp (w:Weighted) (p1:Value) (p2:Int):Bool×Bool:=(zoX w p1 p2).fin default
def zm5 (r:Bool):ARes ty:=⟨[.pure (.lit (.bool r))],[]⟩
def zpg:AL base (Weighted×Value×(Int×Unit)×Unit):=zf (zg (vAgg 182)) (zf (zg (zvd 40)) (zf (zg (vBox (zrL (vInt .i64) vNil))) aNil))
def zgC:Ab.Spec ty:=zn zpg fun x=>((zlp x.1 x.2.1 x.2.2.1.1).1,zm5 (zlp x.1 x.2.1 x.2.2.1.1).2)
theorem zih:Sound Tryz.prog base 202 zgC:=
 zx (cx':=zwe) zH zo zF (zA ⟨zho,trivial⟩) Tryz.call202 Tryz.func202 (c:=body Tryz.f202) (by kernel_rfl) (zi (l:=[]) (by kernel_rfl) trivial) (sg:=⟨[.pure],[]⟩) (A:=zpg) (res:=zm5) (W:=fun x=>zoX x.1 x.2.1 x.2.2.1.1) (z:=default)
abbrev ttTslicesIndexFuncLapiWeightedapiWeightedfi0:=List Weighted×(Value×(Int×Unit)×Unit)×Int×Int×Unit
def zjx (s:List Weighted) (f_0:Value) (f_1:Int) (t7:Int) (t8:Int):Wy ttTslicesIndexFuncLapiWeightedapiWeightedfi0 (Unit) (Int⊕Unit):=.i (decide (t8<t7)) (.i (decide (0≤t8)&&decide (t8<Int.ofNat s.length)) (.bn (zlp (s.getD t8.toNat default) f_0 f_1) fun r0=>.i (r0) (.k (.inl t8)) (.h (s,(f_0,(f_1,()),()),t7,(IntKind.i64.wrap (t8+1)),()) ())) .d) (.k (.inr ()))
def zcF (x:ttTslicesIndexFuncLapiWeightedapiWeightedfi0) (y:Unit):Wy ttTslicesIndexFuncLapiWeightedapiWeightedfi0 (Unit) (Int⊕Unit):=zjx x.1 x.2.1.1 x.2.1.2.1.1 x.2.2.1 x.2.2.2.1
def zju (n:Nat) (s:List Weighted) (f_0:Value) (f_1:Int) (t7:Int) (t8:Int):Bool×(Int⊕Unit):=zM (zcF) (.inl default) n (s,(f_0,(f_1,()),()),t7,t8,()) ()
def zeT (r:Int⊕Unit):LTree ty:=.ite (isL r) (.done .ret [.lit (.int .i64 (getL r))] []) (.done (.exit 0) [] [])
def ze1:LL ty ttTslicesIndexFuncLapiWeightedapiWeightedfi0:=za (lSl 182) (za (lFn 202 (za (zCB (zdo (fun x=>(⟨x.1,x.2.1,x.2.2.1⟩:Value)) (fun x=>(x.Kind,x.Int,x.Text,())) (fun _=>rfl) (za (lInt .i64) (za (lInt .i64) (za lStr zD)))) 0) (za (zCB (za (lInt .i64) zD) 0) zD))) (za (lInt .i64) (za (lInt .i64) zD)))
def ze3:BL ty (Unit):=bNil
def zeG (x:ttTslicesIndexFuncLapiWeightedapiWeightedfi0) (y:Unit):Nat:=(x.1.length+Int.toNat x.2.1.2.1.1+Int.toNat x.2.2.1+Int.toNat x.2.2.2.1+1000)
def ze2:Cx ty:=mkCx base 19 [(202,zgC)] [] [(2,[(0,.keep),(1,.keep),(7,.keep),(8,.keep)])] [(2,1,[]),(2,0,[(4,.keep)])] [(2,spW ze1 ze3 (zcF) (.inl default) zeT zeG)] []
theorem ziW:zU ze2 (lp (body Tryz.f201) 0):=zL (id:=2) (V:=ze1) (B:=ze3) (W:=zcF) (z:=.inl default) (tr:=zeT) (m:=zeG)
def zfm (s:List Weighted) (f_0:Value) (f_1:Int):Wy0 (Int):=.bn (zju (s.length+f_1.toNat +(Int.ofNat s.length).toNat +Int.toNat 0+1000) s f_0 f_1 (Int.ofNat s.length) 0) fun r2=>.i (isL r2) (.k (getL r2)) (.k (-1:Int))
def zcU (s:List Weighted) (f_0:Value) (f_1:Int):Bool×Int:=(zfm s f_0 f_1).fin default
def zeB (r:Int):ARes ty:=⟨[.pure (.lit (.int .i64 r))],[]⟩
def zfk:AL base (List Weighted×(Value×(Int×Unit)×Unit)×Unit):=zf (zg (vSl 182)) (zf (zg (vFn 202 (zrL (zvd 40) (zrL (vBox (zrL (vInt .i64) vNil)) vNil)))) aNil)
def zev:Ab.Spec ty:=zn zfk fun x=>((zcU x.1 x.2.1.1 x.2.1.2.1.1).1,zeB (zcU x.1 x.2.1.1 x.2.1.2.1.1).2)
theorem zix:Sound Tryz.prog base 201 zev:=
 zx (cx':=ze2) zH zo zF (zA ⟨zih,trivial⟩) Tryz.call201 Tryz.func201 (c:=body Tryz.f201) (by kernel_rfl) (zi (l:=[lp (body Tryz.f201) 0]) (by kernel_rfl) ⟨ziW,trivial⟩) (sg:=⟨[.pure],[]⟩) (A:=zfk) (res:=zeB) (W:=fun x=>zfm x.1 x.2.1.1 x.2.1.2.1.1) (z:=default)
def ziF:Cx ty:=mkCx base 9 [(201,zev),(202,zgC)] [] [] [] [] []
def zem (s:List Weighted) (f_0:Value) (f_1:Int):Wy0 (Bool):=.bn (zcU s f_0 f_1) fun r0=>.k (decide (r0≥0))
def zbf (s:List Weighted) (f_0:Value) (f_1:Int):Bool×Bool:=(zem s f_0 f_1).fin default
def zd5 (r:Bool):ARes ty:=⟨[.pure (.lit (.bool r))],[]⟩
def zew:AL base (List Weighted×(Value×(Int×Unit)×Unit)×Unit):=zf (zg (vSl 182)) (zf (zg (vFn 202 (zrL (zvd 40) (zrL (vBox (zrL (vInt .i64) vNil)) vNil)))) aNil)
def zdR:Ab.Spec ty:=zn zew fun x=>((zbf x.1 x.2.1.1 x.2.1.2.1.1).1,zd5 (zbf x.1 x.2.1.1 x.2.1.2.1.1).2)
theorem zh0:Sound Tryz.prog base 155 zdR:=
 zx (cx':=ziF) zH zo zF (zA ⟨zix,zih,trivial⟩) Tryz.call155 Tryz.func155 (c:=body Tryz.f155) (by kernel_rfl) (zi (l:=[]) (by kernel_rfl) trivial) (sg:=⟨[.pure],[]⟩) (A:=zew) (res:=zd5) (W:=fun x=>zem x.1 x.2.1.1 x.2.1.2.1.1) (z:=default)
def zyp:Cx ty:=mkCx base 43 [(83,zgM),(155,zdR),(202,zgC)] [] [] [] [] []
def zsi (fn:Int) (items:List Weighted) (op:Int) (bound:Value):Wy0 (Bool):=.i (decide (fn<0)) (.k false) (.i (decide (fn>3)) (.k false) (.i (decide (op<5)) (.k false) (.i (decide (op>10)) (.k false) (.bn (zgw bound) fun r3=>.i (!r3) (.k false) (.i (fn==0) (.i (bound.Kind != 0) (.k false) (.bn (zbf items bound fn) fun r0=>.k (!r0))) (.i (fn==1) (.i (bound.Kind != 0) (.k false) (.bn (zbf items bound fn) fun r1=>.k (!r1))) (.bn (zbf items bound fn) fun r2=>.k (!r2))))))))
def zok (fn:Int) (items:List Weighted) (op:Int) (bound:Value):Bool×Bool:=(zsi fn items op bound).fin default
def zpP (r:Bool):ARes ty:=⟨[.pure (.lit (.bool r))],[]⟩
def zse:AL base (Int×List Weighted×Int×Value×Unit):=zf (zg (vInt .i64)) (zf (zg (vSl 182)) (zf (zg (vInt .i64)) (zf (zg (vAgg 40)) aNil)))
def zpk:Ab.Spec ty:=zn zse fun x=>((zok x.1 x.2.1 x.2.2.1 x.2.2.2.1).1,zpP (zok x.1 x.2.1 x.2.2.1 x.2.2.2.1).2)
theorem zvJ:Sound Tryz.prog base 158 zpk:=
 zx (cx':=zyp) zH zo zF (zA ⟨zho,zh0,zih,trivial⟩) Tryz.call158 Tryz.func158 (c:=body Tryz.f158) (by kernel_rfl) (zi (l:=[]) (by kernel_rfl) trivial) (sg:=⟨[.pure],[]⟩) (A:=zse) (res:=zpP) (W:=fun x=>zsi x.1 x.2.1 x.2.2.1 x.2.2.2.1) (z:=default)
def zsV:Cx ty:=mkCx base 7 [] [] [] [] [] []
def zlN (t:Term):Wy0 (Bool):=.k (Int.ofNat t.Factors.length==0)
def zi8 (t:Term):Bool×Bool:=(zlN t).fin default
def zkG (r:Bool):ARes ty:=⟨[.pure (.lit (.bool r))],[]⟩
def zlV:AL base (Term×Unit):=zf (zg (vAgg 152)) aNil
def zeK:Ab.Spec ty:=zn zlV fun x=>((zi8 x.1).1,zkG (zi8 x.1).2)
theorem zg5:Sound Tryz.prog base 200 zeK:=
 zx (cx':=zsV) zH zo zF (zA trivial) Tryz.call200 Tryz.func200 (c:=body Tryz.f200) (by kernel_rfl) (zi (l:=[]) (by kernel_rfl) trivial) (sg:=⟨[.pure],[]⟩) (A:=zlV) (res:=zkG) (W:=fun x=>zlN x.1) (z:=default)
abbrev ttTslicesIndexFuncapiAnnotationapiTermhc0:=List Term×Unit×Int×Int×Unit
def zjZ (s:List Term) (t7:Int) (t8:Int):Wy ttTslicesIndexFuncapiAnnotationapiTermhc0 (Unit) (Int⊕Unit):=.i (decide (t8<t7)) (.i (decide (0≤t8)&&decide (t8<Int.ofNat s.length)) (.i ((zi8 (s.getD t8.toNat default)).2) (.k (.inl t8)) (.h (s,(),t7,(IntKind.i64.wrap (t8+1)),()) ())) .d) (.k (.inr ()))
def zcW (x:ttTslicesIndexFuncapiAnnotationapiTermhc0) (y:Unit):Wy ttTslicesIndexFuncapiAnnotationapiTermhc0 (Unit) (Int⊕Unit):=zjZ x.1 x.2.2.1 x.2.2.2.1
def zjU (n:Nat) (s:List Term) (t7:Int) (t8:Int):Bool×(Int⊕Unit):=zM (zcW) (.inl default) n (s,(),t7,t8,()) ()
def zft (r:Int⊕Unit):LTree ty:=.ite (isL r) (.done .ret [.lit (.int .i64 (getL r))] []) (.done (.exit 0) [] [])
def zfT:LL ty ttTslicesIndexFuncapiAnnotationapiTermhc0:=za (lSl 152) (za (lFn 200 (zD)) (za (lInt .i64) (za (lInt .i64) zD)))
def zfN:BL ty (Unit):=bNil
def zfA (x:ttTslicesIndexFuncapiAnnotationapiTermhc0) (y:Unit):Nat:=(x.1.length+Int.toNat x.2.2.1+Int.toNat x.2.2.2.1+1000)
def zfL:Cx ty:=mkCx base 19 [(200,zeK)] [] [(2,[(0,.keep),(1,.keep),(7,.keep),(8,.keep)])] [(2,1,[]),(2,0,[(4,.keep)])] [(2,spW zfT zfN (zcW) (.inl default) zft zfA)] []
theorem zjR:zU zfL (lp (body Tryz.f195) 0):=zL (id:=2) (V:=zfT) (B:=zfN) (W:=zcW) (z:=.inl default) (tr:=zft) (m:=zfA)
def zgl (s:List Term):Wy0 (Int):=.bn (zjU (s.length+(Int.ofNat s.length).toNat +Int.toNat 0+1000) s (Int.ofNat s.length) 0) fun r0=>.i (isL r0) (.k (getL r0)) (.k (-1:Int))
def zdg (s:List Term):Bool×Int:=(zgl s).fin default
def zfv (r:Int):ARes ty:=⟨[.pure (.lit (.int .i64 r))],[]⟩
def zga:AL base (List Term×Unit×Unit):=zf (zg (vSl 152)) (zf (zg (vFn 200 vNil)) aNil)
def zfb:Ab.Spec ty:=zn zga fun x=>((zdg x.1).1,zfv (zdg x.1).2)
theorem zjy:Sound Tryz.prog base 195 zfb:=
 zx (cx':=zfL) zH zo zF (zA ⟨zg5,trivial⟩) Tryz.call195 Tryz.func195 (c:=body Tryz.f195) (by kernel_rfl) (zi (l:=[lp (body Tryz.f195) 0]) (by kernel_rfl) ⟨zjR,trivial⟩) (sg:=⟨[.pure],[]⟩) (A:=zga) (res:=zfv) (W:=fun x=>zgl x.1) (z:=default)
def zjp:Cx ty:=mkCx base 9 [(195,zfb),(200,zeK)] [] [] [] [] []
def zfc (s:List Term):Wy0 (Bool):=.bn (zdg s) fun r0=>.k (decide (r0≥0))
def zcT (s:List Term):Bool×Bool:=(zfc s).fin default
def zeD (r:Bool):ARes ty:=⟨[.pure (.lit (.bool r))],[]⟩
def zfd:AL base (List Term×Unit×Unit):=zf (zg (vSl 152)) (zf (zg (vFn 200 vNil)) aNil)
def zes:Ab.Spec ty:=zn zfd fun x=>((zcT x.1).1,zeD (zcT x.1).2)
theorem ziH:Sound Tryz.prog base 138 zes:=
 zx (cx':=zjp) zH zo zF (zA ⟨zjy,zg5,trivial⟩) Tryz.call138 Tryz.func138 (c:=body Tryz.f138) (by kernel_rfl) (zi (l:=[]) (by kernel_rfl) trivial) (sg:=⟨[.pure],[]⟩) (A:=zfd) (res:=zeD) (W:=fun x=>zfc x.1) (z:=default)
def zvb:Cx ty:=mkCx base 5 [(138,zes),(200,zeK)] [] [] [] [] []
def zoa (a:List Term):Wy0 (Bool):=.bn (zcT a) fun r0=>.k r0
def zkp (a:List Term):Bool×Bool:=(zoa a).fin default
def zmG (r:Bool):ARes ty:=⟨[.pure (.lit (.bool r))],[]⟩
def zos:AL base (List Term×Unit):=zf (zg (vSl 152)) aNil
def zlW:Ab.Spec ty:=zn zos fun x=>((zkp x.1).1,zmG (zkp x.1).2)
theorem zta:Sound Tryz.prog base 154 zlW:=
 zx (cx':=zvb) zH zo zF (zA ⟨ziH,zg5,trivial⟩) Tryz.call154 Tryz.func154 (c:=body Tryz.f154) (by kernel_rfl) (zi (l:=[]) (by kernel_rfl) trivial) (sg:=⟨[.pure],[]⟩) (A:=zos) (res:=zmG) (W:=fun x=>zoa x.1) (z:=default)
def zvy:Cx ty:=mkCx base 14 [] [] [] [] [] []
def zpj (a:List Term):Wy0 (Bool):=.i (Int.ofNat a.length==1) (.i (decide ((0:Int)≤(0:Int))&&decide (0<Int.ofNat a.length)) (.k (Int.ofNat (a.getD (Int.toNat 0) default).Factors.length==0)) .d) (.k false)
def zk9 (a:List Term):Bool×Bool:=(zpj a).fin default
def znh (r:Bool):ARes ty:=⟨[.pure (.lit (.bool r))],[]⟩
def zpl:AL base (List Term×Unit):=zf (zg (vSl 152)) aNil
def zmP:Ab.Spec ty:=zn zpl fun x=>((zk9 x.1).1,znh (zk9 x.1).2)
theorem ztm:Sound Tryz.prog base 152 zmP:=
 zx (cx':=zvy) zH zo zF (zA trivial) Tryz.call152 Tryz.func152 (c:=body Tryz.f152) (by kernel_rfl) (zi (l:=[]) (by kernel_rfl) trivial) (sg:=⟨[.pure],[]⟩) (A:=zpl) (res:=znh) (W:=fun x=>zpj x.1) (z:=default)
def zyV:Cx ty:=mkCx base 42 [(109,ziA)] [] [] [] [] []
def zsA (a:List Term):Wy0 (Bool):=.i (Int.ofNat a.length != 1) (.k false) (.i (decide ((0:Int)≤(0:Int))&&decide (0<Int.ofNat a.length)) (.i ((a.getD (Int.toNat 0) default).Coeff != 1) (.k false) (.i (decide ((0:Int)≤(0:Int))&&decide (0<Int.ofNat a.length)) (.i (Int.ofNat (a.getD (Int.toNat 0) default).Factors.length != 1) (.k false) (.i (decide ((0:Int)≤(0:Int))&&decide (0<Int.ofNat a.length)) (.i (decide ((0:Int)≤(0:Int))&&decide (0<Int.ofNat (a.getD (Int.toNat 0) default).Factors.length)) (.i (((a.getD (Int.toNat 0) default).Factors.getD (Int.toNat 0) default).Exp==1) (.i (((a.getD (Int.toNat 0) default).Factors.getD (Int.toNat 0) default).Atom.Kind==2) (.k true) (.bn (ziq (Atom.mk ((a.getD (Int.toNat 0) default).Factors.getD (Int.toNat 0) default).Atom.Kind ((a.getD (Int.toNat 0) default).Factors.getD (Int.toNat 0) default).Atom.Row ((a.getD (Int.toNat 0) default).Factors.getD (Int.toNat 0) default).Atom.Args ((a.getD (Int.toNat 0) default).Factors.getD (Int.toNat 0) default).Atom.Func ((a.getD (Int.toNat 0) default).Factors.getD (Int.toNat 0) default).Atom.Items ((a.getD (Int.toNat 0) default).Factors.getD (Int.toNat 0) default).Atom.Op ((a.getD (Int.toNat 0) default).Factors.getD (Int.toNat 0) default).Atom.Bound)) fun r0=>.k r0)) (.k false)) .d) .d)) .d)) .d)
def zpz (a:List Term):Bool×Bool:=(zsA a).fin default
def zqW (r:Bool):ARes ty:=⟨[.pure (.lit (.bool r))],[]⟩
def zsP:AL base (List Term×Unit):=zf (zg (vSl 152)) aNil
def zp6:Ab.Spec ty:=zn zsP fun x=>((zpz x.1).1,zqW (zpz x.1).2)
theorem zwG:Sound Tryz.prog base 153 zp6:=
 zx (cx':=zyV) zH zo zF (zA ⟨zlE,trivial⟩) Tryz.call153 Tryz.func153 (c:=body Tryz.f153) (by kernel_rfl) (zi (l:=[]) (by kernel_rfl) trivial) (sg:=⟨[.pure],[]⟩) (A:=zsP) (res:=zqW) (W:=fun x=>zsA x.1) (z:=default)
def zCr:Cx ty:=mkCx base 11 [] [] [] [] [] []
def zxP (id:RowID):Wy0 (Bool):=.i (decide (id.Table≥1)) (.k (decide (id.Seq≥1))) (.k false)
def zvC (id:RowID):Bool×Bool:=(zxP id).fin default
def zvq (r:Bool):ARes ty:=⟨[.pure (.lit (.bool r))],[]⟩
def zyf:AL base (RowID×Unit):=zf (zg (vAgg 155)) aNil
def zuH:Ab.Spec ty:=zn zyf fun x=>((zvC x.1).1,zvq (zvC x.1).2)
theorem zAt:Sound Tryz.prog base 150 zuH:=
 zx (cx':=zCr) zH zo zF (zA trivial) Tryz.call150 Tryz.func150 (c:=body Tryz.f150) (by kernel_rfl) (zi (l:=[]) (by kernel_rfl) trivial) (sg:=⟨[.pure],[]⟩) (A:=zyf) (res:=zvq) (W:=fun x=>zxP x.1) (z:=default)
abbrev ttTslicesIsSortedFuncLapiWeightedapiWeighted0:=List Weighted×Unit×Int×Unit
def zjt (x_:List Weighted) (i:Int):Wy ttTslicesIsSortedFuncLapiWeightedapiWeighted0 (Unit) (Bool⊕Unit):=.i (decide (i>0)) (.i (decide (0≤i)&&decide (i<Int.ofNat x_.length)) (.i (decide (0≤IntKind.i64.wrap (i - 1))&&decide (IntKind.i64.wrap (i - 1)<Int.ofNat x_.length)) (.bn (zpa (x_.getD i.toNat default) (x_.getD (IntKind.i64.wrap (i - 1)).toNat default)) fun r0=>.i (decide (r0<0)) (.k (.inl false)) (.h (x_,(),(IntKind.i64.wrap (i - 1)),()) ())) .d) .d) (.k (.inr ()))
def zcD (x:ttTslicesIsSortedFuncLapiWeightedapiWeighted0) (y:Unit):Wy ttTslicesIsSortedFuncLapiWeightedapiWeighted0 (Unit) (Bool⊕Unit):=zjt x.1 x.2.2.1
def zjw (n:Nat) (x_:List Weighted) (i:Int):Bool×(Bool⊕Unit):=zM (zcD) (.inl default) n (x_,(),i,()) ()
def zeS (r:Bool⊕Unit):LTree ty:=.ite (isL r) (.done .ret [.lit (.bool (getL r))] []) (.done (.exit 0) [] [])
def ze0:LL ty ttTslicesIsSortedFuncLapiWeightedapiWeighted0:=za (lSl 182) (za (lFn 147 (zD)) (za (lInt .i64) zD))
def zeZ:BL ty (Unit):=bNil
def zeY:Cx ty:=mkCx base 25 [(147,annotation_compareItems_spec)] [] [(2,[(0,.keep),(1,.keep),(5,.keep)])] [(2,1,[]),(2,0,[(4,.keep)])] [(2,spW ze0 zeZ (zcD) (.inl default) zeS fun x y=>(x.1.length+Int.toNat x.2.2.1+1000))] []
theorem zi7:zU zeY (lp (body Tryz.f157) 0):=zL (id:=2) (V:=ze0) (B:=zeZ) (W:=zcD) (z:=.inl default) (tr:=zeS) (m:=fun x y=>(x.1.length+Int.toNat x.2.2.1+1000))
def ze7 (x_:List Weighted):Wy0 (Bool):=.bn (zjw (x_.length+(IntKind.i64.wrap (Int.ofNat x_.length - 1)).toNat +1000) x_ (IntKind.i64.wrap (Int.ofNat x_.length - 1))) fun r2=>.i (isL r2) (.k (getL r2)) (.k true)
def zcY (x_:List Weighted):Bool×Bool:=(ze7 x_).fin default
def zeM (r:Bool):ARes ty:=⟨[.pure (.lit (.bool r))],[]⟩
def zfi:AL base (List Weighted×Unit×Unit):=zf (zg (vSl 182)) (zf (zg (vFn 147 vNil)) aNil)
def zey:Ab.Spec ty:=zn zfi fun x=>((zcY x.1).1,zeM (zcY x.1).2)
theorem ziG:Sound Tryz.prog base 157 zey:=
 zx (cx':=zeY) zH zo zF (zA ⟨zkH,trivial⟩) Tryz.call157 Tryz.func157 (c:=body Tryz.f157) (by kernel_rfl) (zi (l:=[lp (body Tryz.f157) 0]) (by kernel_rfl) ⟨zi7,trivial⟩) (sg:=⟨[.pure],[]⟩) (A:=zfi) (res:=zeM) (W:=fun x=>ze7 x.1) (z:=default)
def zbE (zb:List (List Term)→Bool×Bool) (zd:List Term→Bool×Bool) (zc:List Weighted→Bool×Bool) (ze:Weighted→Bool×Bool):Cx ty:=mkCx base 149 [(147,annotation_compareItems_spec),(148,(zbn zb)),(149,(zbU zd)),(150,zuH),(151,zq4),(152,zmP),(153,zp6),(154,zlW),(155,(zby zc)),(156,(zbV ze)),(157,zey),(158,zpk)] [] [] [] [] []
def zbs (zb:List (List Term)→Bool×Bool) (zd:List Term→Bool×Bool) (zc:List Weighted→Bool×Bool) (ze:Weighted→Bool×Bool) (x_:Atom):Wy0 (Bool):=.i (x_.Kind==0) (.i (x_.Func != 0) (.k false) (.i (Int.ofNat x_.Items.length != 0) (.k false) (.i (x_.Op != 0) (.k false) (.i (!(x_.Bound.Kind==0&&(x_.Bound.Int==0&&(x_.Bound.Text.toList==(ByteArray.mk #[]).toList&&true)))) (.k false) (.bn (zb x_.Args) fun r1=>.i (r1) (.k false) (.bn (zvC x_.Row) fun r0=>.i (r0) (.k (Int.ofNat x_.Args.length==0)) (.k false))))))) (.i (x_.Kind==1) (.i (x_.Func != 0) (.k false) (.i (Int.ofNat x_.Items.length != 0) (.k false) (.i (x_.Op != 0) (.k false) (.i (!(x_.Bound.Kind==0&&(x_.Bound.Int==0&&(x_.Bound.Text.toList==(ByteArray.mk #[]).toList&&true)))) (.k false) (.i (!(x_.Row.Table==0&&(x_.Row.Seq==0&&true))) (.k false) (.bn (zb x_.Args) fun r3=>.i (r3) (.k false) (.i (Int.ofNat x_.Args.length==2) (.i (decide ((0:Int)≤(0:Int))&&decide (0<Int.ofNat x_.Args.length)) (.i (decide ((0:Int)≤(1:Int))&&decide (1<Int.ofNat x_.Args.length)) (.bn (zqq (x_.Args.getD (Int.toNat 0) default) (x_.Args.getD (Int.toNat 1) default)) fun r2=>.k (!r2)) .d) .d) (.k false)))))))) (.i (x_.Kind==2) (.i (x_.Func != 0) (.k false) (.i (Int.ofNat x_.Items.length != 0) (.k false) (.i (x_.Op != 0) (.k false) (.i (!(x_.Bound.Kind==0&&(x_.Bound.Int==0&&(x_.Bound.Text.toList==(ByteArray.mk #[]).toList&&true)))) (.k false) (.i (!(x_.Row.Table==0&&(x_.Row.Seq==0&&true))) (.k false) (.bn (zb x_.Args) fun r6=>.i (r6) (.k false) (.i (Int.ofNat x_.Args.length==1) (.i (decide ((0:Int)≤(0:Int))&&decide (0<Int.ofNat x_.Args.length)) (.bn (zk9 (x_.Args.getD (Int.toNat 0) default)) fun r5=>.i (!r5) (.i (decide ((0:Int)≤(0:Int))&&decide (0<Int.ofNat x_.Args.length)) (.bn (zpz (x_.Args.getD (Int.toNat 0) default)) fun r4=>.k (!r4)) .d) (.k false)) .d) (.k false)))))))) (.i (x_.Kind==3) (.i (x_.Func != 0) (.k false) (.i (Int.ofNat x_.Items.length != 0) (.k false) (.i (x_.Op != 0) (.k false) (.i (!(x_.Bound.Kind==0&&(x_.Bound.Int==0&&(x_.Bound.Text.toList==(ByteArray.mk #[]).toList&&true)))) (.k false) (.i (!(x_.Row.Table==0&&(x_.Row.Seq==0&&true))) (.k false) (.bn (zb x_.Args) fun r8=>.i (r8) (.k false) (.i (Int.ofNat x_.Args.length==1) (.i (decide ((0:Int)≤(0:Int))&&decide (0<Int.ofNat x_.Args.length)) (.bn (zkp (x_.Args.getD (Int.toNat 0) default)) fun r7=>.k (!r7)) .d) (.k false)))))))) (.i (x_.Kind==4) (.i (!(x_.Row.Table==0&&(x_.Row.Seq==0&&true))) (.k false) (.bn (zb x_.Args) fun r12=>.i (r12) (.k false) (.bn (zc x_.Items) fun r11=>.i (Int.ofNat x_.Args.length==0) (.i (decide (Int.ofNat x_.Items.length>0)) (.i (!r11) (.bn (zcY x_.Items) fun r10=>.i (r10) (.bn (zok x_.Func x_.Items x_.Op x_.Bound) fun r9=>.k r9) (.k false)) (.k false)) (.k false)) (.k false)))) (.i (x_.Func != 0) (.k false) (.i (Int.ofNat x_.Items.length != 0) (.k false) (.i (x_.Op != 0) (.k false) (.i (!(x_.Bound.Kind==0&&(x_.Bound.Int==0&&(x_.Bound.Text.toList==(ByteArray.mk #[]).toList&&true)))) (.k false) (.i (!(x_.Row.Table==0&&(x_.Row.Seq==0&&true))) (.k false) (.bn (zb x_.Args) fun r14=>.i (r14) (.k false) (.k false)))))))))))
def zqk (zb:List (List Term)→Bool×Bool) (zd:List Term→Bool×Bool) (zc:List Weighted→Bool×Bool) (ze:Weighted→Bool×Bool) (x_:Atom):Bool×Bool:=(zbs zb zd zc ze x_).fin default
theorem ztR (zb:List (List Term)→Bool×Bool) (zd:List Term→Bool×Bool) (zc:List Weighted→Bool×Bool) (ze:Weighted→Bool×Bool) (v_Row:RowID) (v_Args:List (List Term)) (v_Func:Int) (v_Items:List Weighted) (v_Op:Int) (v_Bound:Value)  :zgD (zbE zb zd zc ze) Tryz.f111 (body Tryz.f111) ⟨[.pure],[]⟩ [.pure (.agg (base.enc 158 (Atom.mk (Int.ofNat 0) v_Row v_Args v_Func v_Items v_Op v_Bound)))]=(zbs zb zd zc ze (Atom.mk (Int.ofNat 0) v_Row v_Args v_Func v_Items v_Op v_Bound)).ev noH (fun r=>some (zbr r)) none:=by kernel_rfl
theorem ztL (zb:List (List Term)→Bool×Bool) (zd:List Term→Bool×Bool) (zc:List Weighted→Bool×Bool) (ze:Weighted→Bool×Bool) (v_Row:RowID) (v_Args:List (List Term)) (v_Func:Int) (v_Items:List Weighted) (v_Op:Int) (v_Bound:Value)  :zgD (zbE zb zd zc ze) Tryz.f111 (body Tryz.f111) ⟨[.pure],[]⟩ [.pure (.agg (base.enc 158 (Atom.mk (Int.ofNat 1) v_Row v_Args v_Func v_Items v_Op v_Bound)))]=(zbs zb zd zc ze (Atom.mk (Int.ofNat 1) v_Row v_Args v_Func v_Items v_Op v_Bound)).ev noH (fun r=>some (zbr r)) none:=by kernel_rfl
theorem zt1 (zb:List (List Term)→Bool×Bool) (zd:List Term→Bool×Bool) (zc:List Weighted→Bool×Bool) (ze:Weighted→Bool×Bool) (v_Row:RowID) (v_Args:List (List Term)) (v_Func:Int) (v_Items:List Weighted) (v_Op:Int) (v_Bound:Value)  :zgD (zbE zb zd zc ze) Tryz.f111 (body Tryz.f111) ⟨[.pure],[]⟩ [.pure (.agg (base.enc 158 (Atom.mk (Int.ofNat 2) v_Row v_Args v_Func v_Items v_Op v_Bound)))]=(zbs zb zd zc ze (Atom.mk (Int.ofNat 2) v_Row v_Args v_Func v_Items v_Op v_Bound)).ev noH (fun r=>some (zbr r)) none:=by kernel_rfl
theorem ztK (zb:List (List Term)→Bool×Bool) (zd:List Term→Bool×Bool) (zc:List Weighted→Bool×Bool) (ze:Weighted→Bool×Bool) (v_Row:RowID) (v_Args:List (List Term)) (v_Func:Int) (v_Items:List Weighted) (v_Op:Int) (v_Bound:Value)  :zgD (zbE zb zd zc ze) Tryz.f111 (body Tryz.f111) ⟨[.pure],[]⟩ [.pure (.agg (base.enc 158 (Atom.mk (Int.ofNat 3) v_Row v_Args v_Func v_Items v_Op v_Bound)))]=(zbs zb zd zc ze (Atom.mk (Int.ofNat 3) v_Row v_Args v_Func v_Items v_Op v_Bound)).ev noH (fun r=>some (zbr r)) none:=by kernel_rfl
theorem zty (zb:List (List Term)→Bool×Bool) (zd:List Term→Bool×Bool) (zc:List Weighted→Bool×Bool) (ze:Weighted→Bool×Bool) (v_Row:RowID) (v_Args:List (List Term)) (v_Func:Int) (v_Items:List Weighted) (v_Op:Int) (v_Bound:Value)  :zgD (zbE zb zd zc ze) Tryz.f111 (body Tryz.f111) ⟨[.pure],[]⟩ [.pure (.agg (base.enc 158 (Atom.mk (Int.ofNat 4) v_Row v_Args v_Func v_Items v_Op v_Bound)))]=(zbs zb zd zc ze (Atom.mk (Int.ofNat 4) v_Row v_Args v_Func v_Items v_Op v_Bound)).ev noH (fun r=>some (zbr r)) none:=by kernel_rfl
theorem ztn (zb:List (List Term)→Bool×Bool) (zd:List Term→Bool×Bool) (zc:List Weighted→Bool×Bool) (ze:Weighted→Bool×Bool) (n:Nat) (v_Row:RowID) (v_Args:List (List Term)) (v_Func:Int) (v_Items:List Weighted) (v_Op:Int) (v_Bound:Value)  :zgD (zbE zb zd zc ze) Tryz.f111 (body Tryz.f111) ⟨[.pure],[]⟩ [.pure (.agg (base.enc 158 (Atom.mk (Int.ofNat (n+5)) v_Row v_Args v_Func v_Items v_Op v_Bound)))]=(zbs zb zd zc ze (Atom.mk (Int.ofNat (n+5)) v_Row v_Args v_Func v_Items v_Op v_Bound)).ev noH (fun r=>some (zbr r)) none:=by kernel_rfl
theorem ztj (zb:List (List Term)→Bool×Bool) (zd:List Term→Bool×Bool) (zc:List Weighted→Bool×Bool) (ze:Weighted→Bool×Bool) (n:Nat) (v_Row:RowID) (v_Args:List (List Term)) (v_Func:Int) (v_Items:List Weighted) (v_Op:Int) (v_Bound:Value)  :zgD (zbE zb zd zc ze) Tryz.f111 (body Tryz.f111) ⟨[.pure],[]⟩ [.pure (.agg (base.enc 158 (Atom.mk (Int.negSucc n) v_Row v_Args v_Func v_Items v_Op v_Bound)))]=(zbs zb zd zc ze (Atom.mk (Int.negSucc n) v_Row v_Args v_Func v_Items v_Op v_Bound)).ev noH (fun r=>some (zbr r)) none:=by kernel_rfl
theorem zue (zb:List (List Term)→Bool×Bool) (zd:List Term→Bool×Bool) (zc:List Weighted→Bool×Bool) (ze:Weighted→Bool×Bool) (x_:Atom):zgD (zbE zb zd zc ze) Tryz.f111 (body Tryz.f111) ⟨[.pure],[]⟩ [.pure (.agg (base.enc 158 x_))]=(zbs zb zd zc ze x_).ev noH (fun r=>some (zbr r)) none:=by
 obtain ⟨v_Kind,v_Row,v_Args,v_Func,v_Items,v_Op,v_Bound⟩:=x_
 match v_Kind with
 | .ofNat 0=>exact ztR zb zd zc ze v_Row v_Args v_Func v_Items v_Op v_Bound 
 | .ofNat 1=>exact ztL zb zd zc ze v_Row v_Args v_Func v_Items v_Op v_Bound 
 | .ofNat 2=>exact zt1 zb zd zc ze v_Row v_Args v_Func v_Items v_Op v_Bound 
 | .ofNat 3=>exact ztK zb zd zc ze v_Row v_Args v_Func v_Items v_Op v_Bound 
 | .ofNat 4=>exact zty zb zd zc ze v_Row v_Args v_Func v_Items v_Op v_Bound 
 | .ofNat (n+5)=>exact ztn zb zd zc ze n v_Row v_Args v_Func v_Items v_Op v_Bound 
 | .negSucc n=>exact ztj zb zd zc ze n v_Row v_Args v_Func v_Items v_Op v_Bound 
theorem zs6 (zb:List (List Term)→Bool×Bool) (zd:List Term→Bool×Bool) (zc:List Weighted→Bool×Bool) (ze:Weighted→Bool×Bool) (zhM:Sound Tryz.prog base 148 (zbn zb)) (zdO:Sound Tryz.prog base 149 (zbU zd)) (zii:Sound Tryz.prog base 155 (zby zc)) (zdU:Sound Tryz.prog base 156 (zbV ze)):Sound Tryz.prog base 111 (zh2 (zqk zb zd zc ze)):=
 zx (cx':=(zbE zb zd zc ze)) zH zo zF (zA ⟨zkH,zhM,zdO,zAt,zxz,ztm,zwG,zta,zii,zdU,ziG,zvJ,trivial⟩) Tryz.call111 Tryz.func111 (c:=body Tryz.f111) (by kernel_rfl) (zi (l:=[]) (by kernel_rfl) trivial) (sg:=⟨[.pure],[]⟩) (A:=zqh) (res:=zbr) (W:=fun x=>zbs zb zd zc ze x.1) (z:=default) (fun x=>zue zb zd zc ze x.1) (fun _=>by kernel_rfl)
def ztc (zS:List Term→Bool×Bool):Cx ty:=mkCx base 11 [(69,(ze9 zS))] [] [] [] [] []
def zlX (zS:List Term→Bool×Bool) (a:List Term):Wy0 (Bool):=.bn (zS a) fun r0=>.i (!r0) (.k true) (.k (Int.ofNat a.length==0))
def zne (zS:List Term→Bool×Bool) (a:List Term):Bool×Bool:=(zlX zS a).fin default
theorem zrs (zS:List Term→Bool×Bool) (zmk:Sound Tryz.prog base 69 (ze9 zS)):Sound Tryz.prog base 149 (zbU (zne zS)):=
 zx (cx':=(ztc zS)) zH zo zF (zA ⟨zmk,trivial⟩) Tryz.call149 Tryz.func149 (c:=body Tryz.f149) (by kernel_rfl) (zi (l:=[]) (by kernel_rfl) trivial) (sg:=⟨[.pure],[]⟩) (A:=znk) (res:=zlx) (W:=fun x=>zlX zS x.1) (z:=default)
def zs7 (zS:List Term→Bool×Bool):Cx ty:=mkCx base 13 [(69,(ze9 zS))] [] [] [] [] []
def zlG (zS:List Term→Bool×Bool) (w:Weighted):Wy0 (Bool):=.bn (zS w.Ann) fun r0=>.i (!r0) (.k true) (.k (Int.ofNat w.Ann.length==0))
def znr (zS:List Term→Bool×Bool) (w:Weighted):Bool×Bool:=(zlG zS w).fin default
theorem zrq (zS:List Term→Bool×Bool) (zmk:Sound Tryz.prog base 69 (ze9 zS)):Sound Tryz.prog base 156 (zbV (znr zS)):=
 zx (cx':=(zs7 zS)) zH zo zF (zA ⟨zmk,trivial⟩) Tryz.call156 Tryz.func156 (c:=body Tryz.f156) (by kernel_rfl) (zi (l:=[]) (by kernel_rfl) trivial) (sg:=⟨[.pure],[]⟩) (A:=znN) (res:=zlC) (W:=fun x=>zlG zS x.1) (z:=default)
def zhA (zd:List Term→Bool×Bool) (zG:List (List Term)→Bool×Int):Cx ty:=mkCx base 9 [(149,(zbU zd)),(199,(zbt zG))] [] [] [] [] []
def zdk (zd:List Term→Bool×Bool) (zG:List (List Term)→Bool×Int) (s:List (List Term)):Wy0 (Bool):=.bn (zG s) fun r0=>.k (decide (r0≥0))
def zdJ (zd:List Term→Bool×Bool) (zG:List (List Term)→Bool×Int) (s:List (List Term)):Bool×Bool:=(zdk zd zG s).fin default
theorem zg8 (zd:List Term→Bool×Bool) (zG:List (List Term)→Bool×Int) (zdO:Sound Tryz.prog base 149 (zbU zd)) (zic:Sound Tryz.prog base 199 (zbt zG)):Sound Tryz.prog base 148 (zbn (zdJ zd zG)):=
 zx (cx':=(zhA zd zG)) zH zo zF (zA ⟨zdO,zic,trivial⟩) Tryz.call148 Tryz.func148 (c:=body Tryz.f148) (by kernel_rfl) (zi (l:=[]) (by kernel_rfl) trivial) (sg:=⟨[.pure],[]⟩) (A:=zdM) (res:=zdj) (W:=fun x=>zdk zd zG x.1) (z:=default)
def zh9 (ze:Weighted→Bool×Bool) (zI:List Weighted→Bool×Int):Cx ty:=mkCx base 9 [(156,(zbV ze)),(201,(zbI zI))] [] [] [] [] []
def zd6 (ze:Weighted→Bool×Bool) (zI:List Weighted→Bool×Int) (s:List Weighted):Wy0 (Bool):=.bn (zI s) fun r0=>.k (decide (r0≥0))
def zen (ze:Weighted→Bool×Bool) (zI:List Weighted→Bool×Int) (s:List Weighted):Bool×Bool:=(zd6 ze zI s).fin default
theorem zhP (ze:Weighted→Bool×Bool) (zI:List Weighted→Bool×Int) (zdU:Sound Tryz.prog base 156 (zbV ze)) (zjc:Sound Tryz.prog base 201 (zbI zI)):Sound Tryz.prog base 155 (zby (zen ze zI)):=
 zx (cx':=(zh9 ze zI)) zH zo zF (zA ⟨zdU,zjc,trivial⟩) Tryz.call155 Tryz.func155 (c:=body Tryz.f155) (by kernel_rfl) (zi (l:=[]) (by kernel_rfl) trivial) (sg:=⟨[.pure],[]⟩) (A:=zep) (res:=zd8) (W:=fun x=>zd6 ze zI x.1) (z:=default)
abbrev ttTslicesIndexFuncLapiAnnotationapiAnnotationv10:=List (List Term)×Unit×Int×Int×Unit
def zh3 (zd:List Term→Bool×Bool) (s:List (List Term)) (t7:Int) (t8:Int):Wy ttTslicesIndexFuncLapiAnnotationapiAnnotationv10 (Unit) (Int⊕Unit):=.i (decide (t8<t7)) (.i (decide (0≤t8)&&decide (t8<Int.ofNat s.length)) (.bn (zd (s.getD t8.toNat default)) fun r0=>.i (r0) (.k (.inl t8)) (.h (s,(),t7,(IntKind.i64.wrap (t8+1)),()) ())) .d) (.k (.inr ()))
def zb4 (zd:List Term→Bool×Bool) (x:ttTslicesIndexFuncLapiAnnotationapiAnnotationv10) (y:Unit):Wy ttTslicesIndexFuncLapiAnnotationapiAnnotationv10 (Unit) (Int⊕Unit):=zh3 zd x.1 x.2.2.1 x.2.2.2.1
def zh1 (zd:List Term→Bool×Bool) (n:Nat) (s:List (List Term)) (t7:Int) (t8:Int):Bool×(Int⊕Unit):=zM (zb4 zd) (.inl default) n (s,(),t7,t8,()) ()
def zdz (r:Int⊕Unit):LTree ty:=.ite (isL r) (.done .ret [.lit (.int .i64 (getL r))] []) (.done (.exit 0) [] [])
def zdF:LL ty ttTslicesIndexFuncLapiAnnotationapiAnnotationv10:=za (lSl 36) (za (lFn 149 (zD)) (za (lInt .i64) (za (lInt .i64) zD)))
def zdL:BL ty (Unit):=bNil
def zds (x:ttTslicesIndexFuncLapiAnnotationapiAnnotationv10) (y:Unit):Nat:=(x.1.length+Int.toNat x.2.2.1+Int.toNat x.2.2.2.1+1000)
def zdK (zd:List Term→Bool×Bool):Cx ty:=mkCx base 19 [(149,(zbU zd))] [] [(2,[(0,.keep),(1,.keep),(7,.keep),(8,.keep)])] [(2,1,[]),(2,0,[(4,.keep)])] [(2,spW zdF zdL (zb4 zd) (.inl default) zdz zds)] []
theorem zhU (zd:List Term→Bool×Bool):zU (zdK zd) (lp (body Tryz.f199) 0):=zL (id:=2) (V:=zdF) (B:=zdL) (W:=zb4 zd) (z:=.inl default) (tr:=zdz) (m:=zds)
def zdT (zd:List Term→Bool×Bool) (s:List (List Term)):Wy0 (Int):=.bn (zh1 zd (s.length+(Int.ofNat s.length).toNat +Int.toNat 0+1000) s (Int.ofNat s.length) 0) fun r2=>.i (isL r2) (.k (getL r2)) (.k (-1:Int))
def zeh (zd:List Term→Bool×Bool) (s:List (List Term)):Bool×Int:=(zdT zd s).fin default
theorem zhC (zd:List Term→Bool×Bool) (zdO:Sound Tryz.prog base 149 (zbU zd)):Sound Tryz.prog base 199 (zbt (zeh zd)):=
 zx (cx':=(zdK zd)) zH zo zF (zA ⟨zdO,trivial⟩) Tryz.call199 Tryz.func199 (c:=body Tryz.f199) (by kernel_rfl) (zi (l:=[lp (body Tryz.f199) 0]) (by kernel_rfl) ⟨zhU zd,trivial⟩) (sg:=⟨[.pure],[]⟩) (A:=zed) (res:=zdW) (W:=fun x=>zdT zd x.1) (z:=default)
abbrev ttTslicesIndexFuncLapiWeightedapiWeightedv20:=List Weighted×Unit×Int×Int×Unit
def ziR (ze:Weighted→Bool×Bool) (s:List Weighted) (t7:Int) (t8:Int):Wy ttTslicesIndexFuncLapiWeightedapiWeightedv20 (Unit) (Int⊕Unit):=.i (decide (t8<t7)) (.i (decide (0≤t8)&&decide (t8<Int.ofNat s.length)) (.bn (ze (s.getD t8.toNat default)) fun r0=>.i (r0) (.k (.inl t8)) (.h (s,(),t7,(IntKind.i64.wrap (t8+1)),()) ())) .d) (.k (.inr ()))
def zcv (ze:Weighted→Bool×Bool) (x:ttTslicesIndexFuncLapiWeightedapiWeightedv20) (y:Unit):Wy ttTslicesIndexFuncLapiWeightedapiWeightedv20 (Unit) (Int⊕Unit):=ziR ze x.1 x.2.2.1 x.2.2.2.1
def ziK (ze:Weighted→Bool×Bool) (n:Nat) (s:List Weighted) (t7:Int) (t8:Int):Bool×(Int⊕Unit):=zM (zcv ze) (.inl default) n (s,(),t7,t8,()) ()
def zec (r:Int⊕Unit):LTree ty:=.ite (isL r) (.done .ret [.lit (.int .i64 (getL r))] []) (.done (.exit 0) [] [])
def zet:LL ty ttTslicesIndexFuncLapiWeightedapiWeightedv20:=za (lSl 182) (za (lFn 156 (zD)) (za (lInt .i64) (za (lInt .i64) zD)))
def zer:BL ty (Unit):=bNil
def zef (x:ttTslicesIndexFuncLapiWeightedapiWeightedv20) (y:Unit):Nat:=(x.1.length+Int.toNat x.2.2.1+Int.toNat x.2.2.2.1+1000)
def zel (ze:Weighted→Bool×Bool):Cx ty:=mkCx base 19 [(156,(zbV ze))] [] [(2,[(0,.keep),(1,.keep),(7,.keep),(8,.keep)])] [(2,1,[]),(2,0,[(4,.keep)])] [(2,spW zet zer (zcv ze) (.inl default) zec zef)] []
theorem ziD (ze:Weighted→Bool×Bool):zU (zel ze) (lp (body Tryz.f201) 0):=zL (id:=2) (V:=zet) (B:=zer) (W:=zcv ze) (z:=.inl default) (tr:=zec) (m:=zef)
def zeF (ze:Weighted→Bool×Bool) (s:List Weighted):Wy0 (Int):=.bn (ziK ze (s.length+(Int.ofNat s.length).toNat +Int.toNat 0+1000) s (Int.ofNat s.length) 0) fun r2=>.i (isL r2) (.k (getL r2)) (.k (-1:Int))
def zfl (ze:Weighted→Bool×Bool) (s:List Weighted):Bool×Int:=(zeF ze s).fin default
theorem zid (ze:Weighted→Bool×Bool) (zdU:Sound Tryz.prog base 156 (zbV ze)):Sound Tryz.prog base 201 (zbI (zfl ze)):=
 zx (cx':=(zel ze)) zH zo zF (zA ⟨zdU,trivial⟩) Tryz.call201 Tryz.func201 (c:=body Tryz.f201) (by kernel_rfl) (zi (l:=[lp (body Tryz.f201) 0]) (by kernel_rfl) ⟨ziD ze,trivial⟩) (sg:=⟨[.pure],[]⟩) (A:=zfj) (res:=zeE) (W:=fun x=>zeF ze x.1) (z:=default)
def zcA:Nat→(List Term→Bool×Bool)×(Atom→Bool×Bool)×(List Term→Bool×Bool)×(Weighted→Bool×Bool)×(List (List Term)→Bool×Int)×(List (List Term)→Bool×Bool)×(List Weighted→Bool×Int)×(List Weighted→Bool×Bool)
 | 0=>(fun _=>(false,default),fun _=>(false,default),fun _=>(false,default),fun _=>(false,default),fun _=>(false,default),fun _=>(false,default),fun _=>(false,default),fun _=>(false,default))
 | n+1=>(ztU ((zcA n).2.1),zqk ((zcA n).2.2.2.2.2.1) ((zcA n).2.2.1) ((zcA n).2.2.2.2.2.2.2) ((zcA n).2.2.2.1),zne ((zcA n).1),znr ((zcA n).1),zeh ((zcA n).2.2.1),zdJ ((zcA n).2.2.1) ((zcA n).2.2.2.2.1),zfl ((zcA n).2.2.2.1),zen ((zcA n).2.2.2.1) ((zcA n).2.2.2.2.2.2.1))
def zto (n:Nat):List Term→Bool×Bool:=(zcA n).1
def zxI (n:Nat):Atom→Bool×Bool:=(zcA n).2.1
def zvc (n:Nat):List Term→Bool×Bool:=(zcA n).2.2.1
def zvl (n:Nat):Weighted→Bool×Bool:=(zcA n).2.2.2.1
def ziz (n:Nat):List (List Term)→Bool×Int:=(zcA n).2.2.2.2.1
def zhZ (n:Nat):List (List Term)→Bool×Bool:=(zcA n).2.2.2.2.2.1
def zjN (n:Nat):List Weighted→Bool×Int:=(zcA n).2.2.2.2.2.2.1
def ziJ (n:Nat):List Weighted→Bool×Bool:=(zcA n).2.2.2.2.2.2.2
theorem zBY:∀ n,Sound Tryz.prog base 69 (ze9 (zto n))∧Sound Tryz.prog base 111 (zh2 (zxI n))∧Sound Tryz.prog base 149 (zbU (zvc n))∧Sound Tryz.prog base 156 (zbV (zvl n))∧Sound Tryz.prog base 199 (zbt (ziz n))∧Sound Tryz.prog base 148 (zbn (zhZ n))∧Sound Tryz.prog base 201 (zbI (zjN n))∧Sound Tryz.prog base 155 (zby (ziJ n))
 | 0=>⟨zbm Tryz.call69 (fun _=>rfl),zbm Tryz.call111 (fun _=>rfl),zbm Tryz.call149 (fun _=>rfl),zbm Tryz.call156 (fun _=>rfl),zbm Tryz.call199 (fun _=>rfl),zbm Tryz.call148 (fun _=>rfl),zbm Tryz.call201 (fun _=>rfl),zbm Tryz.call155 (fun _=>rfl)⟩
 | n+1=>by
  have ih:=zBY n
  exact ⟨zvL _ (ih.2.1),zs6 _ _ _ _ (ih.2.2.2.2.2.1) (ih.2.2.1) (ih.2.2.2.2.2.2.2) (ih.2.2.2.1),zrs _ (ih.1),zrq _ (ih.1),zhC _ (ih.2.2.1),zg8 _ _ (ih.2.2.1) (ih.2.2.2.2.1),zid _ (ih.2.2.2.1),zhP _ _ (ih.2.2.2.1) (ih.2.2.2.2.2.2.1)⟩
def zmd:List Term→Bool×Bool:=zto 1000
def annotation_Valid_spec:Ab.Spec ty:=ze9 zmd
theorem zxJ:Sound Tryz.prog base 69 annotation_Valid_spec:=(zBY 1000).1
def zA0 (r:List Term×Int):ARes ty:=⟨[.own 152 r.1,.pure (.lit (.int .i64 r.2))],[]⟩
def zCf:AL base (List Term×List Term×Unit):=zf (zg (vSl 152)) (zf (zg (vSl 152)) aNil)
def zB3 (F:List Term→List Term→Bool×(List Term×Int)):Ab.Spec ty:=zn zCf fun x=>((F x.1 x.2.1).1,zA0 (F x.1 x.2.1).2)
def zxY:List Term→List Term→Bool×(List Term×Int):=fun a _=>(decide (a.length=a.length+1),default)
def annotation_Add_spec:Ab.Spec ty:=zB3 zxY
theorem zy0:Sound Tryz.prog base 77 annotation_Add_spec:=zbm Tryz.call77 (fun _=>decide_eq_false (Nat.ne_of_lt (Nat.lt_succ_self _)))
def zvV:Cx ty:=mkCx base 7 [] [] [] [] [] []
def zo0 (x_:Row):Wy0 (Bool):=.k (Int.ofNat x_.Ann.length==0)
def zil (x_:Row):Bool×Bool:=(zo0 x_).fin default
def znu (r:Bool):ARes ty:=⟨[.pure (.lit (.bool r))],[]⟩
def zo9:AL base (Row×Unit):=zf (zg (vAgg 38)) aNil
def zgA:Ab.Spec ty:=zn zo9 fun x=>((zil x.1).1,znu (zil x.1).2)
theorem zia:Sound Tryz.prog base 72 zgA:=
 zx (cx':=zvV) zH zo zF (zA trivial) Tryz.call72 Tryz.func72 (c:=body Tryz.f72) (by kernel_rfl) (zi (l:=[]) (by kernel_rfl) trivial) (sg:=⟨[.pure],[]⟩) (A:=zo9) (res:=znu) (W:=fun x=>zo0 x.1) (z:=default)
abbrev ttTslicesCompareFuncLapiValueLapiValueapiValueapiValue0:=List Value×List Value×Unit×List Value×Int×Int×Unit
abbrev ttTslicesCompareFuncLapiValueLapiValueapiValueapiValue1:=Int⊕(List Value×List Value)
def zgV (s1:List Value) (s2:List Value) (t11:List Value) (t12:Int) (t13:Int):Wy ttTslicesCompareFuncLapiValueLapiValueapiValueapiValue0 (Unit) ttTslicesCompareFuncLapiValueLapiValueapiValueapiValue1:=.i (decide (t13<t12)) (.i (decide (0≤t13)&&decide (t13<Int.ofNat t11.length)) (.i (decide (t13≥Int.ofNat s2.length)) (.k (.inl 1)) (.i (decide (0≤t13)&&decide (t13<Int.ofNat s2.length)) (.bn (zba (t11.getD t13.toNat default) (s2.getD t13.toNat default)) fun r0=>.i (r0 != 0) (.k (.inl (r0))) (.h (s1,s2,(),t11,t12,(IntKind.i64.wrap (t13+1)),()) ())) .d)) .d) (.k (.inr (s1,s2)))
def zbD (x:ttTslicesCompareFuncLapiValueLapiValueapiValueapiValue0) (y:Unit):Wy ttTslicesCompareFuncLapiValueLapiValueapiValueapiValue0 (Unit) ttTslicesCompareFuncLapiValueLapiValueapiValueapiValue1:=zgV x.1 x.2.1 x.2.2.2.1 x.2.2.2.2.1 x.2.2.2.2.2.1
def zgX (n:Nat) (s1:List Value) (s2:List Value) (t11:List Value) (t12:Int) (t13:Int):Bool×ttTslicesCompareFuncLapiValueLapiValueapiValueapiValue1:=zM (zbD) (.inl default) n (s1,s2,(),t11,t12,t13,()) ()
def zcK (r:ttTslicesCompareFuncLapiValueLapiValueapiValueapiValue1):LTree ty:=.ite (isL r) (.done .ret [.lit (.int .i64 (getL r))] []) (.done (.exit 0) [.sl 40 (getR r).1,.sl 40 (getR r).2] [])
def zcM:LL ty ttTslicesCompareFuncLapiValueLapiValueapiValueapiValue0:=za (lSl 40) (za (lSl 40) (za (lFn 79 (zD)) (za (lSl 40) (za (lInt .i64) (za (lInt .i64) zD)))))
def zcO:BL ty (Unit):=bNil
def zcI (x:ttTslicesCompareFuncLapiValueLapiValueapiValueapiValue0) (y:Unit):Nat:=(x.1.length+x.2.1.length+x.2.2.2.1.length+Int.toNat x.2.2.2.2.1+Int.toNat x.2.2.2.2.2.1+1000)
def zcN:Cx ty:=mkCx base 39 [(79,zb8)] [] [(2,[(0,.keep),(1,.keep),(2,.keep),(11,.keep),(12,.keep),(13,.keep)])] [(2,1,[(0,.keep),(1,.keep)]),(2,0,[(6,.keep)])] [(2,spW zcM zcO (zbD) (.inl default) zcK zcI)] []
theorem zgK:zU zcN (lp (body Tryz.f161) 0):=zL (id:=2) (V:=zcM) (B:=zcO) (W:=zbD) (z:=.inl default) (tr:=zcK) (m:=zcI)
def zcS (s1:List Value) (s2:List Value):Wy0 (Int):=.bn (zgX (s1.length+s2.length+s1.length+(Int.ofNat s1.length).toNat +Int.toNat 0+1000) s1 s2 s1 (Int.ofNat s1.length) 0) fun r2=>.i (isL r2) (.k (getL r2)) (.i (decide (Int.ofNat (getR r2).1.length<Int.ofNat (getR r2).2.length)) (.k (-1:Int)) (.k 0))
def zbJ (s1:List Value) (s2:List Value):Bool×Int:=(zcS s1 s2).fin default
def zcH (r:Int):ARes ty:=⟨[.pure (.lit (.int .i64 r))],[]⟩
def zcR:AL base (List Value×List Value×Unit×Unit):=zf (zg (vSl 40)) (zf (zg (vSl 40)) (zf (zg (vFn 79 vNil)) aNil))
def zcG:Ab.Spec ty:=zn zcR fun x=>((zbJ x.1 x.2.1).1,zcH (zbJ x.1 x.2.1).2)
theorem zgr:Sound Tryz.prog base 161 zcG:=
 zx (cx':=zcN) zH zo zF (zA ⟨zcl,trivial⟩) Tryz.call161 Tryz.func161 (c:=body Tryz.f161) (by kernel_rfl) (zi (l:=[lp (body Tryz.f161) 0]) (by kernel_rfl) ⟨zgK,trivial⟩) (sg:=⟨[.pure],[]⟩) (A:=zcR) (res:=zcH) (W:=fun x=>zcS x.1 x.2.1) (z:=default)
def zy5:Cx ty:=mkCx base 8 [(79,zb8),(161,zcG)] [] [] [] [] []
def zsw (a:List Value) (b:List Value):Wy0 (Int):=.bn (zbJ a b) fun r0=>.k r0
def zpA (a:List Value) (b:List Value):Bool×Int:=(zsw a b).fin default
def zqZ (r:Int):ARes ty:=⟨[.pure (.lit (.int .i64 r))],[]⟩
def zsK:AL base (List Value×List Value×Unit):=zf (zg (vSl 40)) (zf (zg (vSl 40)) aNil)
def zqb:Ab.Spec ty:=zn zsK fun x=>((zpA x.1 x.2.1).1,zqZ (zpA x.1 x.2.1).2)
theorem zww:Sound Tryz.prog base 114 zqb:=
 zx (cx':=zy5) zH zo zF (zA ⟨zcl,zgr,trivial⟩) Tryz.call114 Tryz.func114 (c:=body Tryz.f114) (by kernel_rfl) (zi (l:=[]) (by kernel_rfl) trivial) (sg:=⟨[.pure],[]⟩) (A:=zsK) (res:=zqZ) (W:=fun x=>zsw x.1 x.2.1) (z:=default)
def zAe:Cx ty:=mkCx base 10 [(114,zqb)] [] [] [] [] []
def ztS (x_:Row) (y_:Row):Wy0 (Int):=.bn (zpA x_.Values y_.Values) fun r0=>.k r0
def zbw (x_:Row) (y_:Row):Bool×Int:=(ztS x_ y_).fin default
def zrC (r:Int):ARes ty:=⟨[.pure (.lit (.int .i64 r))],[]⟩
def ztp:AL base (Row×Row×Unit):=zf (zg (vAgg 38)) (zf (zg (vAgg 38)) aNil)
def zk5:Ab.Spec ty:=zn ztp fun x=>((zbw x.1 x.2.1).1,zrC (zbw x.1 x.2.1).2)
theorem zp4:Sound Tryz.prog base 74 zk5:=
 zx (cx':=zAe) zH zo zF (zA ⟨zww,trivial⟩) Tryz.call74 Tryz.func74 (c:=body Tryz.f74) (by kernel_rfl) (zi (l:=[]) (by kernel_rfl) trivial) (sg:=⟨[.pure],[]⟩) (A:=ztp) (res:=zrC) (W:=fun x=>ztS x.1 x.2.1) (z:=default)
def zva (r:List Term×Int):ARes ty:=⟨[.own 152 r.1,.pure (.lit (.int .i64 r.2))],[]⟩
def zwr:AL base (List Term×List Binding×Unit):=zf (zg (vSl 152)) (zf (zg (vSl 210)) aNil)
def zwD (F:List Term→List Binding→Bool×(List Term×Int)):Ab.Spec ty:=zn zwr fun x=>((F x.1 x.2.1).1,zva (F x.1 x.2.1).2)
def zrd:List Term→List Binding→Bool×(List Term×Int):=fun a _=>(decide (a.length=a.length+1),default)
def annotation_Substitute_spec:Ab.Spec ty:=zwD zrd
theorem zub:Sound Tryz.prog base 115 annotation_Substitute_spec:=zbm Tryz.call115 (fun _=>decide_eq_false (Nat.ne_of_lt (Nat.lt_succ_self _)))
def zc7:Cx ty:={ base with nt:=8 }
def zgt (s:List Value):Bool×List Value:=(decide (s.length*32≤reach),s)
def zhI:Ab.Spec ty:=zn (cx:=base) (zf (zg (vSl 40)) aNil) fun x=>((zgt x.1).1,⟨[.own 40 (zgt x.1).2],[]⟩)
theorem znZ:zgD zc7 Tryz.f51 (body Tryz.f51) ⟨[.own 40],[]⟩ [.pure (.lit (.slice none 0 0))]=some ⟨[.own 40 []],[]⟩:=by kernel_rfl
theorem zmJ (p:Addr) (c:Nat):zgD zc7 Tryz.f51 (body Tryz.f51) ⟨[.own 40],[]⟩ [.pure (.lit (.slice (some p) 0 c))]=some ⟨[.own 40 []],[]⟩:=by kernel_rfl
theorem zm3 (l:List Value):zgD zc7 Tryz.f51 (body Tryz.f51) ⟨[.own 40],[]⟩ [.pure (.sl 40 l)]=bif !l.isEmpty then bif decide ((([]:List (ty 40)).length+l.length)*32≤reach) then some ⟨[.own 40 l],[]⟩ else none else none:=by kernel_rfl
theorem zms:Sound Tryz.prog base 51 zhI:=
 zxx (cx':=zc7) (bytes:=32) zH zo ⟨⟨rfl,rfl,rfl,rfl,rfl,rfl⟩,rfl⟩ (fun g s h=>by cases h) Tryz.call51 Tryz.func51 (c:=body Tryz.f51) (by kernel_rfl) (zi (l:=[]) (by kernel_rfl) trivial) znZ zmJ zm3 (by kernel_rfl)
def zBb:Cx ty:=mkCx base 17 [(51,zhI),(115,annotation_Substitute_spec)] [] [] [] [] []
def zu1 (x_:Row) (a:List Term):Wy0 (Row):=.bn (zrd a []) fun r1=>.bn (zgt x_.Values) fun r0=>.k (⟨r0,r1.1⟩:Row)
def znQ (x_:Row) (a:List Term):Bool×Row:=(zu1 x_ a).fin default
def zsF (r:Row):ARes ty:=⟨[.pure (.agg (base.enc 38 r))],[]⟩
def zuK:AL base (Row×List Term×Unit):=zf (zg (vAgg 38)) (zf (zg (vSl 152)) aNil)
def zrZ:Ab.Spec ty:=zn zuK fun x=>((znQ x.1 x.2.1).1,zsF (znQ x.1 x.2.1).2)
theorem zyA:Sound Tryz.prog base 76 zrZ:=
 zx (cx':=zBb) zH zo zF (zA ⟨zms,zub,trivial⟩) Tryz.call76 Tryz.func76 (c:=body Tryz.f76) (by kernel_rfl) (zi (l:=[]) (by kernel_rfl) trivial) (sg:=⟨[.pure],[]⟩) (A:=zuK) (res:=zsF) (W:=fun x=>zu1 x.1 x.2.1) (z:=default)
def zAc:Cx ty:=mkCx base 16 [(83,zgM)] [] [] [] [] []
def zon (p:pair):Wy0 (Bool):=.bn (zgw p.v) fun r0=>.i (!r0) (.k true) (.k (p.v.Kind != p.c.Type_))
def zhT (p:pair):Bool×Bool:=(zon p).fin default
def zrv (r:Bool):ARes ty:=⟨[.pure (.lit (.bool r))],[]⟩
def ztV:AL base (pair×Unit):=zf (zg (vAgg 147)) aNil
def ziv:Ab.Spec ty:=zn ztV fun x=>((zhT x.1).1,zrv (zhT x.1).2)
theorem zku:Sound Tryz.prog base 106 ziv:=
 zx (cx':=zAc) zH zo zF (zA ⟨zho,trivial⟩) Tryz.call106 Tryz.func106 (c:=body Tryz.f106) (by kernel_rfl) (zi (l:=[]) (by kernel_rfl) trivial) (sg:=⟨[.pure],[]⟩) (A:=ztV) (res:=zrv) (W:=fun x=>zon x.1) (z:=default)
abbrev ttTrelationzip0:=List Column×Unit×List Value×Int×Int×Unit
abbrev ttTrelationzip1:=List pair×Unit
def zrT (l:List Column) (t8:List Value) (t9:Int) (t10:Int) (out_:List pair):Wy ttTrelationzip0 ttTrelationzip1 (List pair):=.i (decide (t10<t9)) (.i (decide (0≤t10)&&decide (t10<Int.ofNat t8.length)) (.i (decide (0≤t10)&&decide (t10<Int.ofNat l.length)) (.i (decide ((out_.length+[pair.mk (l.getD t10.toNat default) (t8.getD t10.toNat default)].length)*56≤reach)) (.h (l,(),t8,t9,(IntKind.i64.wrap (t10+1)),()) ((out_++[pair.mk (l.getD t10.toNat default) (t8.getD t10.toNat default)]),())) .d) .d) .d) (.k out_)
def znm (x:ttTrelationzip0) (y:ttTrelationzip1):Wy ttTrelationzip0 ttTrelationzip1 (List pair):=zrT x.1 x.2.2.1 x.2.2.2.1 x.2.2.2.2.1 y.1
def zrU (n:Nat) (l:List Column) (t8:List Value) (t9:Int) (t10:Int) (out_:List pair):Bool×List pair:=zM (znm) default n (l,(),t8,t9,t10,()) (out_,())
def zvv (r:List pair):LTree ty:=.done (.exit 0) [.own 104] [.arr 147 r false]
def zwS:LL ty ttTrelationzip0:=za (lSl 67) (za (lOwn 104) (za (lSl 40) (za (lInt .i64) (za (lInt .i64) zD))))
def zw5:BL ty ttTrelationzip1:=bArr 147 false (bNil)
def zwl (x:ttTrelationzip0) (y:ttTrelationzip1):Nat:=(x.1.length+x.2.2.1.length+Int.toNat x.2.2.2.1+Int.toNat x.2.2.2.2.1+y.1.length+1000)
def zwN:Cx ty:=mkCx base 26 [] [] [(3,[(0,.keep),(5,.own 147),(8,.keep),(9,.keep),(10,.keep)])] [(3,1,[(5,.keep)])] [(3,spW zwS zw5 (znm) default zvv zwl)] []
theorem zCk:zU zwN (lp (body Tryz.f105) 0):=zL (id:=3) (V:=zwS) (B:=zw5) (W:=znm) (z:=default) (tr:=zvv) (m:=zwl)
def zsQ (l:List Column) (row:List Value):Wy0 (List pair):=.bn (zrU (l.length+row.length+(Int.ofNat row.length).toNat +Int.toNat 0+0+1000) l row (Int.ofNat row.length) 0 []) fun r0=>.k r0
def zn8 (l:List Column) (row:List Value):Bool×List pair:=(zsQ l row).fin default
def zwk (r:List pair):ARes ty:=⟨[.own 147 r],[]⟩
def zxV:AL base (List Column×List Value×Unit):=zf (zg (vSl 67)) (zf (zg (vSl 40)) aNil)
def zuX:Ab.Spec ty:=zn zxV fun x=>((zn8 x.1 x.2.1).1,zwk (zn8 x.1 x.2.1).2)
theorem zAj:Sound Tryz.prog base 105 zuX:=
 zx (cx':=zwN) zH zo zF (zA trivial) Tryz.call105 Tryz.func105 (c:=body Tryz.f105) (by kernel_rfl) (zi (l:=[lp (body Tryz.f105) 0]) (by kernel_rfl) ⟨zCk,trivial⟩) (sg:=⟨[.own 147],[]⟩) (A:=zxV) (res:=zwk) (W:=fun x=>zsQ x.1 x.2.1) (z:=default)
abbrev ttTslicesIndexFuncLrelationpairrelationpairfi0:=List pair×Unit×Int×Int×Unit
def ziN (s:List pair) (t7:Int) (t8:Int):Wy ttTslicesIndexFuncLrelationpairrelationpairfi0 (Unit) (Int⊕Unit):=.i (decide (t8<t7)) (.i (decide (0≤t8)&&decide (t8<Int.ofNat s.length)) (.bn (zhT (s.getD t8.toNat default)) fun r0=>.i (r0) (.k (.inl t8)) (.h (s,(),t7,(IntKind.i64.wrap (t8+1)),()) ())) .d) (.k (.inr ()))
def zcu (x:ttTslicesIndexFuncLrelationpairrelationpairfi0) (y:Unit):Wy ttTslicesIndexFuncLrelationpairrelationpairfi0 (Unit) (Int⊕Unit):=ziN x.1 x.2.2.1 x.2.2.2.1
def ziP (n:Nat) (s:List pair) (t7:Int) (t8:Int):Bool×(Int⊕Unit):=zM (zcu) (.inl default) n (s,(),t7,t8,()) ()
def zea (r:Int⊕Unit):LTree ty:=.ite (isL r) (.done .ret [.lit (.int .i64 (getL r))] []) (.done (.exit 0) [] [])
def zeq:LL ty ttTslicesIndexFuncLrelationpairrelationpairfi0:=za (lSl 147) (za (lFn 106 (zD)) (za (lInt .i64) (za (lInt .i64) zD)))
def zex:BL ty (Unit):=bNil
def zeb (x:ttTslicesIndexFuncLrelationpairrelationpairfi0) (y:Unit):Nat:=(x.1.length+Int.toNat x.2.2.1+Int.toNat x.2.2.2.1+1000)
def zeu:Cx ty:=mkCx base 19 [(106,ziv)] [] [(2,[(0,.keep),(1,.keep),(7,.keep),(8,.keep)])] [(2,1,[]),(2,0,[(4,.keep)])] [(2,spW zeq zex (zcu) (.inl default) zea zeb)] []
theorem ziI:zU zeu (lp (body Tryz.f135) 0):=zL (id:=2) (V:=zeq) (B:=zex) (W:=zcu) (z:=.inl default) (tr:=zea) (m:=zeb)
def zeN (s:List pair):Wy0 (Int):=.bn (ziP (s.length+(Int.ofNat s.length).toNat +Int.toNat 0+1000) s (Int.ofNat s.length) 0) fun r2=>.i (isL r2) (.k (getL r2)) (.k (-1:Int))
def zbK (s:List pair):Bool×Int:=(zeN s).fin default
def zeg (r:Int):ARes ty:=⟨[.pure (.lit (.int .i64 r))],[]⟩
def zeH:AL base (List pair×Unit×Unit):=zf (zg (vSl 147)) (zf (zg (vFn 106 vNil)) aNil)
def zd7:Ab.Spec ty:=zn zeH fun x=>((zbK x.1).1,zeg (zbK x.1).2)
theorem zh7:Sound Tryz.prog base 135 zd7:=
 zx (cx':=zeu) zH zo zF (zA ⟨zku,trivial⟩) Tryz.call135 Tryz.func135 (c:=body Tryz.f135) (by kernel_rfl) (zi (l:=[lp (body Tryz.f135) 0]) (by kernel_rfl) ⟨ziI,trivial⟩) (sg:=⟨[.pure],[]⟩) (A:=zeH) (res:=zeg) (W:=fun x=>zeN x.1) (z:=default)
def zif:Cx ty:=mkCx base 9 [(106,ziv),(135,zd7)] [] [] [] [] []
def zcd (s:List pair):Wy0 (Bool):=.bn (zbK s) fun r0=>.k (decide (r0≥0))
def zbd (s:List pair):Bool×Bool:=(zcd s).fin default
def zdH (r:Bool):ARes ty:=⟨[.pure (.lit (.bool r))],[]⟩
def zd4:AL base (List pair×Unit×Unit):=zf (zg (vSl 147)) (zf (zg (vFn 106 vNil)) aNil)
def zdB:Ab.Spec ty:=zn zd4 fun x=>((zbd x.1).1,zdH (zbd x.1).2)
theorem zhH:Sound Tryz.prog base 104 zdB:=
 zx (cx':=zif) zH zo zF (zA ⟨zku,zh7,trivial⟩) Tryz.call104 Tryz.func104 (c:=body Tryz.f104) (by kernel_rfl) (zi (l:=[]) (by kernel_rfl) trivial) (sg:=⟨[.pure],[]⟩) (A:=zd4) (res:=zdH) (W:=fun x=>zcd x.1) (z:=default)
def zCd:Cx ty:=mkCx base 17 [(104,zdB),(105,zuX),(106,ziv)] [] [] [] [] []
def zry (l:List Column) (row:List Value):Wy0 (Bool):=.i (Int.ofNat l.length==Int.ofNat row.length) (.bn (zn8 l row) fun r1=>.bn (zbd r1) fun r0=>.k (!r0)) (.k false)
def zj9 (l:List Column) (row:List Value):Bool×Bool:=(zry l row).fin default
def zuW (r:Bool):ARes ty:=⟨[.pure (.lit (.bool r))],[]⟩
def zwX:AL base (List Column×List Value×Unit):=zf (zg (vSl 67)) (zf (zg (vSl 40)) aNil)
def ztu:Ab.Spec ty:=zn zwX fun x=>((zj9 x.1 x.2.1).1,zuW (zj9 x.1 x.2.1).2)
theorem zAd:Sound Tryz.prog base 68 ztu:=
 zx (cx':=zCd) zH zo zF (zA ⟨zhH,zAj,zku,trivial⟩) Tryz.call68 Tryz.func68 (c:=body Tryz.f68) (by kernel_rfl) (zi (l:=[]) (by kernel_rfl) trivial) (sg:=⟨[.pure],[]⟩) (A:=zwX) (res:=zuW) (W:=fun x=>zry x.1 x.2.1) (z:=default)
def zDD:Cx ty:=mkCx base 2 [] [] [] [] [] []
def zzK:Wy0 (List ByteArray):=.k [ByteArray.mk #[(73:UInt8),(78:UInt8),(84:UInt8),(69:UInt8),(71:UInt8),(69:UInt8),(82:UInt8)],ByteArray.mk #[(84:UInt8),(69:UInt8),(88:UInt8),(84:UInt8)],ByteArray.mk #[(66:UInt8),(79:UInt8),(79:UInt8),(76:UInt8),(69:UInt8),(65:UInt8),(78:UInt8)]]
def ztg:Bool×List ByteArray:=(zzK).fin default
def zxa (r:List ByteArray):ARes ty:=⟨[.own 9 r],[]⟩
def zzs:AL base (Unit):=aNil
def zwn:Ab.Spec ty:=zn zzs fun x=>((ztg ).1,zxa (ztg ).2)
theorem zBv:Sound Tryz.prog base 134 zwn:=
 zx (cx':=zDD) zH zo zF (zA trivial) Tryz.call134 Tryz.func134 (c:=body Tryz.f134) (by kernel_rfl) (zi (l:=[]) (by kernel_rfl) trivial) (sg:=⟨[.own 9],[]⟩) (A:=zzs) (res:=zxa) (W:=fun x=>zzK ) (z:=default)
def zBt:Cx ty:=mkCx base 13 [(134,zwn)] [] [] [] [] []
def zl4 (kind:Int):Wy0 (ByteArray):=.i (decide (kind<0)) (.k (ByteArray.mk #[])) (.i (decide (kind>2)) (.k (ByteArray.mk #[])) (.i (decide (0≤kind)&&decide (kind<Int.ofNat ztg.2.length)) (.k (ztg.2.getD kind.toNat default)) .d))
def zlo (kind:Int):Bool×ByteArray:=(zl4 kind).fin default
def zt0 (r:ByteArray):ARes ty:=⟨[.pure (.lit (.string r))],[]⟩
def zvt:AL base (Int×Unit):=zf (zg (vInt .i64)) aNil
def zsH:Ab.Spec ty:=zn zvt fun x=>((zlo x.1).1,zt0 (zlo x.1).2)
theorem zzh:Sound Tryz.prog base 103 zsH:=
 zx (cx':=zBt) zH zo zF (zA ⟨zBv,trivial⟩) Tryz.call103 Tryz.func103 (c:=body Tryz.f103) (by kernel_rfl) (zi (l:=[]) (by kernel_rfl) trivial) (sg:=⟨[.pure],[]⟩) (A:=zvt) (res:=zt0) (W:=fun x=>zl4 x.1) (z:=default)
def ztN:Cx ty:=mkCx base 7 [(103,zsH)] [] [] [] [] []
def zgB (c:Column):Wy0 (Bool):=.bn (zlo c.Type_) fun r0=>.k (r0.toList==(ByteArray.mk #[]).toList)
def zbb (c:Column):Bool×Bool:=(zgB c).fin default
def zk2 (r:Bool):ARes ty:=⟨[.pure (.lit (.bool r))],[]⟩
def zmt:AL base (Column×Unit):=zf (zg (vAgg 67)) aNil
def ze6:Ab.Spec ty:=zn zmt fun x=>((zbb x.1).1,zk2 (zbb x.1).2)
theorem zhm:Sound Tryz.prog base 102 ze6:=
 zx (cx':=ztN) zH zo zF (zA ⟨zzh,trivial⟩) Tryz.call102 Tryz.func102 (c:=body Tryz.f102) (by kernel_rfl) (zi (l:=[]) (by kernel_rfl) trivial) (sg:=⟨[.pure],[]⟩) (A:=zmt) (res:=zk2) (W:=fun x=>zgB x.1) (z:=default)
abbrev ttTslicesIndexFuncLapiColumnapiColumnvc0:=List Column×Unit×Int×Int×Unit
def zkb (s:List Column) (t7:Int) (t8:Int):Wy ttTslicesIndexFuncLapiColumnapiColumnvc0 (Unit) (Int⊕Unit):=.i (decide (t8<t7)) (.i (decide (0≤t8)&&decide (t8<Int.ofNat s.length)) (.bn (zbb (s.getD t8.toNat default)) fun r0=>.i (r0) (.k (.inl t8)) (.h (s,(),t7,(IntKind.i64.wrap (t8+1)),()) ())) .d) (.k (.inr ()))
def zc6 (x:ttTslicesIndexFuncLapiColumnapiColumnvc0) (y:Unit):Wy ttTslicesIndexFuncLapiColumnapiColumnvc0 (Unit) (Int⊕Unit):=zkb x.1 x.2.2.1 x.2.2.2.1
def zko (n:Nat) (s:List Column) (t7:Int) (t8:Int):Bool×(Int⊕Unit):=zM (zc6) (.inl default) n (s,(),t7,t8,()) ()
def zfM (r:Int⊕Unit):LTree ty:=.ite (isL r) (.done .ret [.lit (.int .i64 (getL r))] []) (.done (.exit 0) [] [])
def zgd:LL ty ttTslicesIndexFuncLapiColumnapiColumnvc0:=za (lSl 67) (za (lFn 102 (zD)) (za (lInt .i64) (za (lInt .i64) zD)))
def zf8:BL ty (Unit):=bNil
def zfU (x:ttTslicesIndexFuncLapiColumnapiColumnvc0) (y:Unit):Nat:=(x.1.length+Int.toNat x.2.2.1+Int.toNat x.2.2.2.1+1000)
def zgk:Cx ty:=mkCx base 19 [(102,ze6)] [] [(2,[(0,.keep),(1,.keep),(7,.keep),(8,.keep)])] [(2,1,[]),(2,0,[(4,.keep)])] [(2,spW zgd zf8 (zc6) (.inl default) zfM zfU)] []
theorem zj5:zU zgk (lp (body Tryz.f133) 0):=zL (id:=2) (V:=zgd) (B:=zf8) (W:=zc6) (z:=.inl default) (tr:=zfM) (m:=zfU)
def zgy (s:List Column):Wy0 (Int):=.bn (zko (s.length+(Int.ofNat s.length).toNat +Int.toNat 0+1000) s (Int.ofNat s.length) 0) fun r2=>.i (isL r2) (.k (getL r2)) (.k (-1:Int))
def zcf (s:List Column):Bool×Int:=(zgy s).fin default
def zfO (r:Int):ARes ty:=⟨[.pure (.lit (.int .i64 r))],[]⟩
def zgu:AL base (List Column×Unit×Unit):=zf (zg (vSl 67)) (zf (zg (vFn 102 vNil)) aNil)
def zfs:Ab.Spec ty:=zn zgu fun x=>((zcf x.1).1,zfO (zcf x.1).2)
theorem zjD:Sound Tryz.prog base 133 zfs:=
 zx (cx':=zgk) zH zo zF (zA ⟨zhm,trivial⟩) Tryz.call133 Tryz.func133 (c:=body Tryz.f133) (by kernel_rfl) (zi (l:=[lp (body Tryz.f133) 0]) (by kernel_rfl) ⟨zj5,trivial⟩) (sg:=⟨[.pure],[]⟩) (A:=zgu) (res:=zfO) (W:=fun x=>zgy x.1) (z:=default)
def zjA:Cx ty:=mkCx base 9 [(102,ze6),(133,zfs)] [] [] [] [] []
def zcQ (s:List Column):Wy0 (Bool):=.bn (zcf s) fun r0=>.k (decide (r0≥0))
def zbq (s:List Column):Bool×Bool:=(zcQ s).fin default
def zeX (r:Bool):ARes ty:=⟨[.pure (.lit (.bool r))],[]⟩
def zfx:AL base (List Column×Unit×Unit):=zf (zg (vSl 67)) (zf (zg (vFn 102 vNil)) aNil)
def zeO:Ab.Spec ty:=zn zfx fun x=>((zbq x.1).1,zeX (zbq x.1).2)
theorem ziO:Sound Tryz.prog base 101 zeO:=
 zx (cx':=zjA) zH zo zF (zA ⟨zhm,zjD,trivial⟩) Tryz.call101 Tryz.func101 (c:=body Tryz.f101) (by kernel_rfl) (zi (l:=[]) (by kernel_rfl) trivial) (sg:=⟨[.pure],[]⟩) (A:=zfx) (res:=zeX) (W:=fun x=>zcQ x.1) (z:=default)
def zv0:Cx ty:=mkCx base 11 [(101,zeO),(102,ze6)] [] [] [] [] []
def zj4 (l:List Column):Wy0 (Bool):=.i (decide (Int.ofNat l.length≤16)) (.bn (zbq l) fun r0=>.k (!r0)) (.k false)
def zgO (l:List Column):Bool×Bool:=(zj4 l).fin default
def znP (r:Bool):ARes ty:=⟨[.pure (.lit (.bool r))],[]⟩
def zpf:AL base (List Column×Unit):=zf (zg (vSl 67)) aNil
def zmC:Ab.Spec ty:=zn zpf fun x=>((zgO x.1).1,znP (zgO x.1).2)
theorem zt7:Sound Tryz.prog base 67 zmC:=
 zx (cx':=zv0) zH zo zF (zA ⟨ziO,zhm,trivial⟩) Tryz.call67 Tryz.func67 (c:=body Tryz.f67) (by kernel_rfl) (zi (l:=[]) (by kernel_rfl) trivial) (sg:=⟨[.pure],[]⟩) (A:=zpf) (res:=znP) (W:=fun x=>zj4 x.1) (z:=default)
def zcL:Cx ty:={ base with nt:=8 }
def zck (s:List Column):Bool×List Column:=(decide (s.length*24≤reach),s)
def zhd:Ab.Spec ty:=zn (cx:=base) (zf (zg (vSl 67)) aNil) fun x=>((zck x.1).1,⟨[.own 67 (zck x.1).2],[]⟩)
theorem zmv:zgD zcL Tryz.f75 (body Tryz.f75) ⟨[.own 67],[]⟩ [.pure (.lit (.slice none 0 0))]=some ⟨[.own 67 []],[]⟩:=by kernel_rfl
theorem zlt (p:Addr) (c:Nat):zgD zcL Tryz.f75 (body Tryz.f75) ⟨[.own 67],[]⟩ [.pure (.lit (.slice (some p) 0 c))]=some ⟨[.own 67 []],[]⟩:=by kernel_rfl
theorem zl3 (l:List Column):zgD zcL Tryz.f75 (body Tryz.f75) ⟨[.own 67],[]⟩ [.pure (.sl 67 l)]=bif !l.isEmpty then bif decide ((([]:List (ty 67)).length+l.length)*24≤reach) then some ⟨[.own 67 l],[]⟩ else none else none:=by kernel_rfl
theorem zlr:Sound Tryz.prog base 75 zhd:=
 zxx (cx':=zcL) (bytes:=24) zH zo ⟨⟨rfl,rfl,rfl,rfl,rfl,rfl⟩,rfl⟩ (fun g s h=>by cases h) Tryz.call75 Tryz.func75 (c:=body Tryz.f75) (by kernel_rfl) (zi (l:=[]) (by kernel_rfl) trivial) zmv zlt zl3 (by kernel_rfl)
def zd0:Cx ty:={ base with nt:=8 }
def zbO (s:List Row):Bool×List Row:=(decide (s.length*48≤reach),s)
def ziS:Ab.Spec ty:=zn (cx:=base) (zf (zg (vSl 38)) aNil) fun x=>((zbO x.1).1,⟨[.own 38 (zbO x.1).2],[]⟩)
theorem zpU:zgD zd0 Tryz.f71 (body Tryz.f71) ⟨[.own 38],[]⟩ [.pure (.lit (.slice none 0 0))]=some ⟨[.own 38 []],[]⟩:=by kernel_rfl
theorem zoL (p:Addr) (c:Nat):zgD zd0 Tryz.f71 (body Tryz.f71) ⟨[.own 38],[]⟩ [.pure (.lit (.slice (some p) 0 c))]=some ⟨[.own 38 []],[]⟩:=by kernel_rfl
theorem zpu (l:List Row):zgD zd0 Tryz.f71 (body Tryz.f71) ⟨[.own 38],[]⟩ [.pure (.sl 38 l)]=bif !l.isEmpty then bif decide ((([]:List (ty 38)).length+l.length)*48≤reach) then some ⟨[.own 38 l],[]⟩ else none else none:=by kernel_rfl
theorem zoR:Sound Tryz.prog base 71 ziS:=
 zxx (cx':=zd0) (bytes:=48) zH zo ⟨⟨rfl,rfl,rfl,rfl,rfl,rfl⟩,rfl⟩ (fun g s h=>by cases h) Tryz.call71 Tryz.func71 (c:=body Tryz.f71) (by kernel_rfl) (zi (l:=[]) (by kernel_rfl) trivial) zpU zoL zpu (by kernel_rfl)
end Go.Proofs.YtddkaehkimnklaaGreatDoor
end
