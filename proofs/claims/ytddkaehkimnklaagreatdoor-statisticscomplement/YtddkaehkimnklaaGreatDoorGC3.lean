/- Texts of this claim, joined (the program, its functions in plain words, and what they compute). -/
import Derived.Test.YtddkaehkimnklaaGreatDoorGC1
import Derived.Test.YtddkaehkimnklaaGreatDoorGA3
import Derived.Test.YtddkaehkimnklaaGreatDoorGC2
set_option autoImplicit false
set_option linter.unusedVariables false
set_option linter.unusedSectionVars false
set_option linter.unusedSimpArgs false
set_option maxRecDepth 1000000
set_option maxHeartbeats 0
noncomputable section
namespace Go.Proofs.YtddkaehkimnklaaGreatDoor
open Go Go.Ab
abbrev ttTannotationValid0:=List Term×Unit×List Term×Int×Int×List Factor×Int×Int×Unit
abbrev ttTannotationValid1:=Bool⊕(List Term×List Term×Int×Int)
abbrev ttTannotationValid2:=List Term×List Term×Int×Int×Unit
def zwE (zo:Atom→Bool×Bool) (a:List Term) (t10:List Term) (t11:Int) (t12:Int) (t40:List Factor) (t41:Int) (t42:Int) (t:Term):Wy ttTannotationValid0 (Term×Unit) ttTannotationValid1:=.i (decide (t42<t41)) (.i (decide (0≤t42)&&decide (t42<Int.ofNat t40.length)) (.i (decide ((t40.getD t42.toNat default).Exp<1)) (.k (.inl false)) (.bn (ziy (Atom.mk (t40.getD t42.toNat default).Atom.Kind (t40.getD t42.toNat default).Atom.Row (t40.getD t42.toNat default).Atom.Args (t40.getD t42.toNat default).Atom.Func (t40.getD t42.toNat default).Atom.Items (t40.getD t42.toNat default).Atom.Op (t40.getD t42.toNat default).Atom.Bound)) fun r6=>.i (r6) (.i ((t40.getD t42.toNat default).Exp != 1) (.k (.inl false)) (.i (decide (t42>0)) (.i (decide (0≤IntKind.i64.wrap (t42 - 1))&&decide (IntKind.i64.wrap (t42 - 1)<Int.ofNat t.Factors.length)) (.bn (zjX (Atom.mk (t.Factors.getD (IntKind.i64.wrap (t42 - 1)).toNat default).Atom.Kind (t.Factors.getD (IntKind.i64.wrap (t42 - 1)).toNat default).Atom.Row (t.Factors.getD (IntKind.i64.wrap (t42 - 1)).toNat default).Atom.Args (t.Factors.getD (IntKind.i64.wrap (t42 - 1)).toNat default).Atom.Func (t.Factors.getD (IntKind.i64.wrap (t42 - 1)).toNat default).Atom.Items (t.Factors.getD (IntKind.i64.wrap (t42 - 1)).toNat default).Atom.Op (t.Factors.getD (IntKind.i64.wrap (t42 - 1)).toNat default).Atom.Bound) (Atom.mk (t40.getD t42.toNat default).Atom.Kind (t40.getD t42.toNat default).Atom.Row (t40.getD t42.toNat default).Atom.Args (t40.getD t42.toNat default).Atom.Func (t40.getD t42.toNat default).Atom.Items (t40.getD t42.toNat default).Atom.Op (t40.getD t42.toNat default).Atom.Bound)) fun r1=>.i (decide (r1≥0)) (.k (.inl false)) (.bn (zo (Atom.mk (t40.getD t42.toNat default).Atom.Kind (t40.getD t42.toNat default).Atom.Row (t40.getD t42.toNat default).Atom.Args (t40.getD t42.toNat default).Atom.Func (t40.getD t42.toNat default).Atom.Items (t40.getD t42.toNat default).Atom.Op (t40.getD t42.toNat default).Atom.Bound)) fun r0=>.i (!r0) (.k (.inl false)) (.h (a,(),t10,t11,t12,t40,t41,(IntKind.i64.wrap (t42+1)),()) (t,())))) .d) (.bn (zo (Atom.mk (t40.getD t42.toNat default).Atom.Kind (t40.getD t42.toNat default).Atom.Row (t40.getD t42.toNat default).Atom.Args (t40.getD t42.toNat default).Atom.Func (t40.getD t42.toNat default).Atom.Items (t40.getD t42.toNat default).Atom.Op (t40.getD t42.toNat default).Atom.Bound)) fun r2=>.i (!r2) (.k (.inl false)) (.h (a,(),t10,t11,t12,t40,t41,(IntKind.i64.wrap (t42+1)),()) (t,()))))) (.i (decide (t42>0)) (.i (decide (0≤IntKind.i64.wrap (t42 - 1))&&decide (IntKind.i64.wrap (t42 - 1)<Int.ofNat t.Factors.length)) (.bn (zjX (Atom.mk (t.Factors.getD (IntKind.i64.wrap (t42 - 1)).toNat default).Atom.Kind (t.Factors.getD (IntKind.i64.wrap (t42 - 1)).toNat default).Atom.Row (t.Factors.getD (IntKind.i64.wrap (t42 - 1)).toNat default).Atom.Args (t.Factors.getD (IntKind.i64.wrap (t42 - 1)).toNat default).Atom.Func (t.Factors.getD (IntKind.i64.wrap (t42 - 1)).toNat default).Atom.Items (t.Factors.getD (IntKind.i64.wrap (t42 - 1)).toNat default).Atom.Op (t.Factors.getD (IntKind.i64.wrap (t42 - 1)).toNat default).Atom.Bound) (Atom.mk (t40.getD t42.toNat default).Atom.Kind (t40.getD t42.toNat default).Atom.Row (t40.getD t42.toNat default).Atom.Args (t40.getD t42.toNat default).Atom.Func (t40.getD t42.toNat default).Atom.Items (t40.getD t42.toNat default).Atom.Op (t40.getD t42.toNat default).Atom.Bound)) fun r4=>.i (decide (r4≥0)) (.k (.inl false)) (.bn (zo (Atom.mk (t40.getD t42.toNat default).Atom.Kind (t40.getD t42.toNat default).Atom.Row (t40.getD t42.toNat default).Atom.Args (t40.getD t42.toNat default).Atom.Func (t40.getD t42.toNat default).Atom.Items (t40.getD t42.toNat default).Atom.Op (t40.getD t42.toNat default).Atom.Bound)) fun r3=>.i (!r3) (.k (.inl false)) (.h (a,(),t10,t11,t12,t40,t41,(IntKind.i64.wrap (t42+1)),()) (t,())))) .d) (.bn (zo (Atom.mk (t40.getD t42.toNat default).Atom.Kind (t40.getD t42.toNat default).Atom.Row (t40.getD t42.toNat default).Atom.Args (t40.getD t42.toNat default).Atom.Func (t40.getD t42.toNat default).Atom.Items (t40.getD t42.toNat default).Atom.Op (t40.getD t42.toNat default).Atom.Bound)) fun r5=>.i (!r5) (.k (.inl false)) (.h (a,(),t10,t11,t12,t40,t41,(IntKind.i64.wrap (t42+1)),()) (t,())))))) .d) (.k (.inr (a,t10,t11,t12)))
def zlg (zo:Atom→Bool×Bool) (x:ttTannotationValid0) (y:Term×Unit):Wy ttTannotationValid0 (Term×Unit) ttTannotationValid1:=zwE zo x.1 x.2.2.1 x.2.2.2.1 x.2.2.2.2.1 x.2.2.2.2.2.1 x.2.2.2.2.2.2.1 x.2.2.2.2.2.2.2.1 y.1
def zpA (zo:Atom→Bool×Bool) (n:Nat) (a:List Term) (t10:List Term) (t11:Int) (t12:Int) (t40:List Factor) (t41:Int) (t42:Int) (t:Term):Bool×ttTannotationValid1:=zba (zlg zo) (.inl default) n (a,(),t10,t11,t12,t40,t41,t42,()) (t,())
def zov (r:ttTannotationValid1):LTree ty:=.ite (isL r) (.done .ret [.lit (.bool (getL r))] []) (.done (.exit 2) [.sl 152 (getR r).1,.sl 152 (getR r).2.1,.lit (.int .i64 (getR r).2.2.1),.lit (.int .i64 (getR r).2.2.2)] [])
def zpL:LL ty ttTannotationValid0:=za (lSl 152) (za (zcS 340 0) (za (lSl 152) (za (lInt .i64) (za (lInt .i64) (za (lSl 160) (za (lInt .i64) (za (lInt .i64) zF)))))))
def zpu:BL ty (Term×Unit):=bBox (zfM (fun x=>(⟨x.1,x.2.1⟩:Term)) (fun x=>(x.Coeff,x.Factors,())) (fun _=>rfl) (za (lInt .i64) (za (lSl 160) zF))) false (bNil)
def zxl (zo:Atom→Bool×Bool) (a:List Term) (t10:List Term) (t11:Int) (t12:Int):Wy ttTannotationValid2 (Unit) (Bool⊕Unit):=.i (decide (t12<t11)) (.i (decide (0≤t12)&&decide (t12<Int.ofNat t10.length)) (.i (decide ((t10.getD t12.toNat default).Coeff<1)) (.k (.inl false)) (.i (decide ((t10.getD t12.toNat default).Coeff>1152921504606846976)) (.k (.inl false)) (.i (decide (t12>0)) (.i (decide (0≤IntKind.i64.wrap (t12 - 1))&&decide (IntKind.i64.wrap (t12 - 1)<Int.ofNat a.length)) (.bn (zn3 (a.getD (IntKind.i64.wrap (t12 - 1)).toNat default) (t10.getD t12.toNat default)) fun r15=>.i (decide (r15≥0)) (.k (.inl false)) (.bn (zpA zo (a.length+t10.length+t11.toNat +t12.toNat +(t10.getD t12.toNat default).Factors.length+(Int.ofNat (t10.getD t12.toNat default).Factors.length).toNat +Int.toNat 0+(t10.getD t12.toNat default).Factors.length+1000) a t10 t11 t12 (t10.getD t12.toNat default).Factors (Int.ofNat (t10.getD t12.toNat default).Factors.length) 0 (t10.getD t12.toNat default)) fun r14=>.i (isL r14) (.k (.inl (getL r14))) (.h ((getR r14).1,(getR r14).2.1,(getR r14).2.2.1,(IntKind.i64.wrap ((getR r14).2.2.2+1)),()) ()))) .d) (.bn (zpA zo (a.length+t10.length+t11.toNat +t12.toNat +(t10.getD t12.toNat default).Factors.length+(Int.ofNat (t10.getD t12.toNat default).Factors.length).toNat +Int.toNat 0+(t10.getD t12.toNat default).Factors.length+1000) a t10 t11 t12 (t10.getD t12.toNat default).Factors (Int.ofNat (t10.getD t12.toNat default).Factors.length) 0 (t10.getD t12.toNat default)) fun r16=>.i (isL r16) (.k (.inl (getL r16))) (.h ((getR r16).1,(getR r16).2.1,(getR r16).2.2.1,(IntKind.i64.wrap ((getR r16).2.2.2+1)),()) ()))))) .d) (.k (.inr ()))
def zkZ (zo:Atom→Bool×Bool) (x:ttTannotationValid2) (y:Unit):Wy ttTannotationValid2 (Unit) (Bool⊕Unit):=zxl zo x.1 x.2.1 x.2.2.1 x.2.2.2.1
def zw8 (zo:Atom→Bool×Bool) (n:Nat) (a:List Term) (t10:List Term) (t11:Int) (t12:Int):Bool×(Bool⊕Unit):=zba (zkZ zo) (.inl default) n (a,t10,t11,t12,()) ()
def zoZ (r:Bool⊕Unit):LTree ty:=.ite (isL r) (.done .ret [.lit (.bool (getL r))] []) (.done (.exit 0) [] [])
def zpR:LL ty ttTannotationValid2:=za (lSl 152) (za (lSl 152) (za (lInt .i64) (za (lInt .i64) zF)))
def zp0:BL ty (Unit):=bNil
def zoQ (x:ttTannotationValid0) (y:Term×Unit):Nat:=(x.1.length+x.2.2.1.length+Int.toNat x.2.2.2.1+Int.toNat x.2.2.2.2.1+x.2.2.2.2.2.1.length+Int.toNat x.2.2.2.2.2.2.1+Int.toNat x.2.2.2.2.2.2.2.1+y.1.Factors.length+1000)
def zo3 (x:ttTannotationValid2) (y:Unit):Nat:=(x.1.length+x.2.1.length+Int.toNat x.2.2.1+Int.toNat x.2.2.2.1+1000)
def zkX (zo:Atom→Bool×Bool):Cx ty:=mkCx base 85 [(107,zo0),(108,annotation_compareLists_spec),(109,ziN),(110,annotation_compareAtoms_spec),(111,(zic zo))] [] [(4,[(0,.keep),(10,.keep),(11,.keep),(12,.keep)]),(9,[(0,.keep),(4,.keep),(10,.keep),(11,.keep),(12,.keep),(40,.keep),(41,.keep),(42,.keep)])] [(4,1,[]),(4,0,[(2,.keep)]),(9,3,[(0,.keep),(10,.keep),(11,.keep),(12,.keep)]),(9,0,[(2,.keep)])] [(9,spW zpL zpu (zlg zo) (.inl default) zov zoQ),(4,spW zpR zp0 (zkZ zo) (.inl default) zoZ zo3)] []
theorem zvU (zo:Atom→Bool×Bool):z8 (zkX zo) (lp (body Tryz.f69) 1):=zQ (id:=9) (V:=zpL) (B:=zpu) (W:=zlg zo) (z:=.inl default) (tr:=zov) (m:=zoQ)
theorem zwi (zo:Atom→Bool×Bool):z8 (zkX zo) (lp (body Tryz.f69) 0):=zQ (id:=4) (V:=zpR) (B:=zp0) (W:=zkZ zo) (z:=.inl default) (tr:=zoZ) (m:=zo3)
def zqH (zo:Atom→Bool×Bool) (a:List Term):Wy0 (Bool):=.bn (zoo a) fun r21=>.i (!r21) (.k false) (.bn (zw8 zo (a.length+a.length+(Int.ofNat a.length).toNat +Int.toNat 0+1000) a a (Int.ofNat a.length) 0) fun r20=>.i (isL r20) (.k (getL r20)) (.k true))
def zsn (zo:Atom→Bool×Bool) (a:List Term):Bool×Bool:=(zqH zo a).fin default
theorem zua (zo:Atom→Bool×Bool) (zuR:Sound Tryz.prog base 111 (zic zo)):Sound Tryz.prog base 69 (zfp (zsn zo)):=
 zy (cx':=(zkX zo)) zG zr zC (zA ⟨zuY,zrd,zly,zrc,zuR,trivial⟩) Tryz.call69 Tryz.func69 (c:=body Tryz.f69) (by kernel_rfl) (zi (l:=[lp (body Tryz.f69) 0,lp (body Tryz.f69) 1]) (by kernel_rfl) ⟨zwi zo,zvU zo,trivial⟩) (sg:=⟨[.pure],[]⟩) (A:=zsL) (res:=zqv) (W:=fun x=>zqH zo x.1) (z:=default)
def zyF:Cx ty:=mkCx base 9 [(145,annotation_Compare_spec)] [] [] [] [] []
def zsz (a:List Term) (b:List Term):Wy0 (Bool):=.bn (zsx a b) fun r0=>.k (r0==0)
def zpk (a:List Term) (b:List Term):Bool×Bool:=(zsz a b).fin default
def zqx (r:Bool):ARes ty:=⟨[.pure (.lit (.bool r))],[]⟩
def zsS:AL base (List Term×List Term×Unit):=zf (zg (vSl 152)) (zf (zg (vSl 152)) aNil)
def zpr:Ab.Spec ty:=zn zsS fun x=>((zpk x.1 x.2.1).1,zqx (zpk x.1 x.2.1).2)
theorem zvQ:Sound Tryz.prog base 151 zpr:=
 zy (cx':=zyF) zG zr zC (zA ⟨zuS,trivial⟩) Tryz.call151 Tryz.func151 (c:=body Tryz.f151) (by kernel_rfl) (zi (l:=[]) (by kernel_rfl) trivial) (sg:=⟨[.pure],[]⟩) (A:=zsS) (res:=zqx) (W:=fun x=>zsz x.1 x.2.1) (z:=default)
def zuv:Cx ty:=mkCx base 27 [(83,zgY)] [] [] [] [] []
def zn7 (w:Weighted) (p1:Value) (p2:Int):Wy0 (Bool):=.bn (zgJ w.Value) fun r0=>.i (!r0) (.k true) (.i (w.Value.Kind != p1.Kind) (.k true) (.i (p2==0) (.k (w.Value.Int != 1)) (.k false)))
def zkT (w:Weighted) (p1:Value) (p2:Int):Bool×Bool:=(zn7 w p1 p2).fin default
def zmL (r:Bool):ARes ty:=⟨[.pure (.lit (.bool r))],[]⟩
def zoa:AL base (Weighted×Value×(Int×Unit)×Unit):=zf (zg (vAgg 182)) (zf (zg (ztO 40)) (zf (zg (vBox (zra (vInt .i64) vNil))) aNil))
def zgP:Ab.Spec ty:=zn zoa fun x=>((zkT x.1 x.2.1 x.2.2.1.1).1,zmL (zkT x.1 x.2.1 x.2.2.1.1).2)
theorem zih:Sound Tryz.prog base 202 zgP:=
 zy (cx':=zuv) zG zr zC (zA ⟨zht,trivial⟩) Tryz.call202 Tryz.func202 (c:=body Tryz.f202) (by kernel_rfl) (zi (l:=[]) (by kernel_rfl) trivial) (sg:=⟨[.pure],[]⟩) (A:=zoa) (res:=zmL) (W:=fun x=>zn7 x.1 x.2.1 x.2.2.1.1) (z:=default)
abbrev ttTslicesIndexFuncLapiWeightedapiWeightedfi0:=List Weighted×(Value×(Int×Unit)×Unit)×Int×Int×Unit
def zjm (s:List Weighted) (f_0:Value) (f_1:Int) (t7:Int) (t8:Int):Wy ttTslicesIndexFuncLapiWeightedapiWeightedfi0 (Unit) (Int⊕Unit):=.i (decide (t8<t7)) (.i (decide (0≤t8)&&decide (t8<Int.ofNat s.length)) (.bn (zkT (s.getD t8.toNat default) f_0 f_1) fun r0=>.i (r0) (.k (.inl t8)) (.h (s,(f_0,(f_1,()),()),t7,(IntKind.i64.wrap (t8+1)),()) ())) .d) (.k (.inr ()))
def zcE (x:ttTslicesIndexFuncLapiWeightedapiWeightedfi0) (y:Unit):Wy ttTslicesIndexFuncLapiWeightedapiWeightedfi0 (Unit) (Int⊕Unit):=zjm x.1 x.2.1.1 x.2.1.2.1.1 x.2.2.1 x.2.2.2.1
def zjr (n:Nat) (s:List Weighted) (f_0:Value) (f_1:Int) (t7:Int) (t8:Int):Bool×(Int⊕Unit):=zba (zcE) (.inl default) n (s,(f_0,(f_1,()),()),t7,t8,()) ()
def zeO (r:Int⊕Unit):LTree ty:=.ite (isL r) (.done .ret [.lit (.int .i64 (getL r))] []) (.done (.exit 0) [] [])
def ze4:LL ty ttTslicesIndexFuncLapiWeightedapiWeightedfi0:=za (lSl 182) (za (lFn 202 (za (zBf (zfM (fun x=>(⟨x.1,x.2.1,x.2.2.1⟩:Value)) (fun x=>(x.Kind,x.Int,x.Text,())) (fun _=>rfl) (za (lInt .i64) (za (lInt .i64) (za lStr zF)))) 0) (za (zBf (za (lInt .i64) zF) 0) zF))) (za (lInt .i64) (za (lInt .i64) zF)))
def ze0:BL ty (Unit):=bNil
def zeN (x:ttTslicesIndexFuncLapiWeightedapiWeightedfi0) (y:Unit):Nat:=(x.1.length+Int.toNat x.2.1.2.1.1+Int.toNat x.2.2.1+Int.toNat x.2.2.2.1+1000)
def ze7:Cx ty:=mkCx base 19 [(202,zgP)] [] [(2,[(0,.keep),(1,.keep),(7,.keep),(8,.keep)])] [(2,1,[]),(2,0,[(4,.keep)])] [(2,spW ze4 ze0 (zcE) (.inl default) zeO zeN)] []
theorem zja:z8 ze7 (lp (body Tryz.f201) 0):=zQ (id:=2) (V:=ze4) (B:=ze0) (W:=zcE) (z:=.inl default) (tr:=zeO) (m:=zeN)
def zfk (s:List Weighted) (f_0:Value) (f_1:Int):Wy0 (Int):=.bn (zjr (s.length+f_1.toNat +(Int.ofNat s.length).toNat +Int.toNat 0+1000) s f_0 f_1 (Int.ofNat s.length) 0) fun r2=>.i (isL r2) (.k (getL r2)) (.k (-1:Int))
def zcW (s:List Weighted) (f_0:Value) (f_1:Int):Bool×Int:=(zfk s f_0 f_1).fin default
def zeL (r:Int):ARes ty:=⟨[.pure (.lit (.int .i64 r))],[]⟩
def zfs:AL base (List Weighted×(Value×(Int×Unit)×Unit)×Unit):=zf (zg (vSl 182)) (zf (zg (vFn 202 (zra (ztO 40) (zra (vBox (zra (vInt .i64) vNil)) vNil)))) aNil)
def zew:Ab.Spec ty:=zn zfs fun x=>((zcW x.1 x.2.1.1 x.2.1.2.1.1).1,zeL (zcW x.1 x.2.1.1 x.2.1.2.1.1).2)
theorem ziR:Sound Tryz.prog base 201 zew:=
 zy (cx':=ze7) zG zr zC (zA ⟨zih,trivial⟩) Tryz.call201 Tryz.func201 (c:=body Tryz.f201) (by kernel_rfl) (zi (l:=[lp (body Tryz.f201) 0]) (by kernel_rfl) ⟨zja,trivial⟩) (sg:=⟨[.pure],[]⟩) (A:=zfs) (res:=zeL) (W:=fun x=>zfk x.1 x.2.1.1 x.2.1.2.1.1) (z:=default)
def ziO:Cx ty:=mkCx base 9 [(201,zew),(202,zgP)] [] [] [] [] []
def zer (s:List Weighted) (f_0:Value) (f_1:Int):Wy0 (Bool):=.bn (zcW s f_0 f_1) fun r0=>.k (decide (r0≥0))
def zbe (s:List Weighted) (f_0:Value) (f_1:Int):Bool×Bool:=(zer s f_0 f_1).fin default
def zea (r:Bool):ARes ty:=⟨[.pure (.lit (.bool r))],[]⟩
def zey:AL base (List Weighted×(Value×(Int×Unit)×Unit)×Unit):=zf (zg (vSl 182)) (zf (zg (vFn 202 (zra (ztO 40) (zra (vBox (zra (vInt .i64) vNil)) vNil)))) aNil)
def zdU:Ab.Spec ty:=zn zey fun x=>((zbe x.1 x.2.1.1 x.2.1.2.1.1).1,zea (zbe x.1 x.2.1.1 x.2.1.2.1.1).2)
theorem zie:Sound Tryz.prog base 155 zdU:=
 zy (cx':=ziO) zG zr zC (zA ⟨ziR,zih,trivial⟩) Tryz.call155 Tryz.func155 (c:=body Tryz.f155) (by kernel_rfl) (zi (l:=[]) (by kernel_rfl) trivial) (sg:=⟨[.pure],[]⟩) (A:=zey) (res:=zea) (W:=fun x=>zer x.1 x.2.1.1 x.2.1.2.1.1) (z:=default)
def zwZ:Cx ty:=mkCx base 43 [(83,zgY),(155,zdU),(202,zgP)] [] [] [] [] []
def zq4 (fn:Int) (items:List Weighted) (op:Int) (bound:Value):Wy0 (Bool):=.i (decide (fn<0)) (.k false) (.i (decide (fn>3)) (.k false) (.i (decide (op<5)) (.k false) (.i (decide (op>10)) (.k false) (.bn (zgJ bound) fun r3=>.i (!r3) (.k false) (.i (fn==0) (.i (bound.Kind != 0) (.k false) (.bn (zbe items bound fn) fun r0=>.k (!r0))) (.i (fn==1) (.i (bound.Kind != 0) (.k false) (.bn (zbe items bound fn) fun r1=>.k (!r1))) (.bn (zbe items bound fn) fun r2=>.k (!r2))))))))
def znl (fn:Int) (items:List Weighted) (op:Int) (bound:Value):Bool×Bool:=(zq4 fn items op bound).fin default
def zoA (r:Bool):ARes ty:=⟨[.pure (.lit (.bool r))],[]⟩
def zqT:AL base (Int×List Weighted×Int×Value×Unit):=zf (zg (vInt .i64)) (zf (zg (vSl 182)) (zf (zg (vInt .i64)) (zf (zg (vAgg 40)) aNil)))
def znZ:Ab.Spec ty:=zn zqT fun x=>((znl x.1 x.2.1 x.2.2.1 x.2.2.2.1).1,zoA (znl x.1 x.2.1 x.2.2.1 x.2.2.2.1).2)
theorem zuy:Sound Tryz.prog base 158 znZ:=
 zy (cx':=zwZ) zG zr zC (zA ⟨zht,zie,zih,trivial⟩) Tryz.call158 Tryz.func158 (c:=body Tryz.f158) (by kernel_rfl) (zi (l:=[]) (by kernel_rfl) trivial) (sg:=⟨[.pure],[]⟩) (A:=zqT) (res:=zoA) (W:=fun x=>zq4 x.1 x.2.1 x.2.2.1 x.2.2.2.1) (z:=default)
def zrP:Cx ty:=mkCx base 7 [] [] [] [] [] []
def zlP (t:Term):Wy0 (Bool):=.k (Int.ofNat t.Factors.length==0)
def zi9 (t:Term):Bool×Bool:=(zlP t).fin default
def zkB (r:Bool):ARes ty:=⟨[.pure (.lit (.bool r))],[]⟩
def zls:AL base (Term×Unit):=zf (zg (vAgg 152)) aNil
def zeU:Ab.Spec ty:=zn zls fun x=>((zi9 x.1).1,zkB (zi9 x.1).2)
theorem zg8:Sound Tryz.prog base 200 zeU:=
 zy (cx':=zrP) zG zr zC (zA trivial) Tryz.call200 Tryz.func200 (c:=body Tryz.f200) (by kernel_rfl) (zi (l:=[]) (by kernel_rfl) trivial) (sg:=⟨[.pure],[]⟩) (A:=zls) (res:=zkB) (W:=fun x=>zlP x.1) (z:=default)
abbrev ttTslicesIndexFuncapiAnnotationapiTermhc0:=List Term×Unit×Int×Int×Unit
def zjT (s:List Term) (t7:Int) (t8:Int):Wy ttTslicesIndexFuncapiAnnotationapiTermhc0 (Unit) (Int⊕Unit):=.i (decide (t8<t7)) (.i (decide (0≤t8)&&decide (t8<Int.ofNat s.length)) (.i ((zi9 (s.getD t8.toNat default)).2) (.k (.inl t8)) (.h (s,(),t7,(IntKind.i64.wrap (t8+1)),()) ())) .d) (.k (.inr ()))
def zcZ (x:ttTslicesIndexFuncapiAnnotationapiTermhc0) (y:Unit):Wy ttTslicesIndexFuncapiAnnotationapiTermhc0 (Unit) (Int⊕Unit):=zjT x.1 x.2.2.1 x.2.2.2.1
def zjY (n:Nat) (s:List Term) (t7:Int) (t8:Int):Bool×(Int⊕Unit):=zba (zcZ) (.inl default) n (s,(),t7,t8,()) ()
def zfI (r:Int⊕Unit):LTree ty:=.ite (isL r) (.done .ret [.lit (.int .i64 (getL r))] []) (.done (.exit 0) [] [])
def zf6:LL ty ttTslicesIndexFuncapiAnnotationapiTermhc0:=za (lSl 152) (za (lFn 200 (zF)) (za (lInt .i64) (za (lInt .i64) zF)))
def zfX:BL ty (Unit):=bNil
def zfz (x:ttTslicesIndexFuncapiAnnotationapiTermhc0) (y:Unit):Nat:=(x.1.length+Int.toNat x.2.2.1+Int.toNat x.2.2.2.1+1000)
def zfZ:Cx ty:=mkCx base 19 [(200,zeU)] [] [(2,[(0,.keep),(1,.keep),(7,.keep),(8,.keep)])] [(2,1,[]),(2,0,[(4,.keep)])] [(2,spW zf6 zfX (zcZ) (.inl default) zfI zfz)] []
theorem zjK:z8 zfZ (lp (body Tryz.f195) 0):=zQ (id:=2) (V:=zf6) (B:=zfX) (W:=zcZ) (z:=.inl default) (tr:=zfI) (m:=zfz)
def zgo (s:List Term):Wy0 (Int):=.bn (zjY (s.length+(Int.ofNat s.length).toNat +Int.toNat 0+1000) s (Int.ofNat s.length) 0) fun r0=>.i (isL r0) (.k (getL r0)) (.k (-1:Int))
def zdl (s:List Term):Bool×Int:=(zgo s).fin default
def zfE (r:Int):ARes ty:=⟨[.pure (.lit (.int .i64 r))],[]⟩
def zgl:AL base (List Term×Unit×Unit):=zf (zg (vSl 152)) (zf (zg (vFn 200 vNil)) aNil)
def zff:Ab.Spec ty:=zn zgl fun x=>((zdl x.1).1,zfE (zdl x.1).2)
theorem zjs:Sound Tryz.prog base 195 zff:=
 zy (cx':=zfZ) zG zr zC (zA ⟨zg8,trivial⟩) Tryz.call195 Tryz.func195 (c:=body Tryz.f195) (by kernel_rfl) (zi (l:=[lp (body Tryz.f195) 0]) (by kernel_rfl) ⟨zjK,trivial⟩) (sg:=⟨[.pure],[]⟩) (A:=zgl) (res:=zfE) (W:=fun x=>zgo x.1) (z:=default)
def zju:Cx ty:=mkCx base 9 [(195,zff),(200,zeU)] [] [] [] [] []
def zfn (s:List Term):Wy0 (Bool):=.bn (zdl s) fun r0=>.k (decide (r0≥0))
def zcV (s:List Term):Bool×Bool:=(zfn s).fin default
def zeE (r:Bool):ARes ty:=⟨[.pure (.lit (.bool r))],[]⟩
def zfg:AL base (List Term×Unit×Unit):=zf (zg (vSl 152)) (zf (zg (vFn 200 vNil)) aNil)
def zep:Ab.Spec ty:=zn zfg fun x=>((zcV x.1).1,zeE (zcV x.1).2)
theorem ziK:Sound Tryz.prog base 138 zep:=
 zy (cx':=zju) zG zr zC (zA ⟨zjs,zg8,trivial⟩) Tryz.call138 Tryz.func138 (c:=body Tryz.f138) (by kernel_rfl) (zi (l:=[]) (by kernel_rfl) trivial) (sg:=⟨[.pure],[]⟩) (A:=zfg) (res:=zeE) (W:=fun x=>zfn x.1) (z:=default)
def ztG:Cx ty:=mkCx base 5 [(138,zep),(200,zeU)] [] [] [] [] []
def zno (a:List Term):Wy0 (Bool):=.bn (zcV a) fun r0=>.k r0
def zko (a:List Term):Bool×Bool:=(zno a).fin default
def zmb (r:Bool):ARes ty:=⟨[.pure (.lit (.bool r))],[]⟩
def znt:AL base (List Term×Unit):=zf (zg (vSl 152)) aNil
def zlJ:Ab.Spec ty:=zn znt fun x=>((zko x.1).1,zmb (zko x.1).2)
theorem zr5:Sound Tryz.prog base 154 zlJ:=
 zy (cx':=ztG) zG zr zC (zA ⟨ziK,zg8,trivial⟩) Tryz.call154 Tryz.func154 (c:=body Tryz.f154) (by kernel_rfl) (zi (l:=[]) (by kernel_rfl) trivial) (sg:=⟨[.pure],[]⟩) (A:=znt) (res:=zmb) (W:=fun x=>zno x.1) (z:=default)
def zuI:Cx ty:=mkCx base 14 [] [] [] [] [] []
def znP (a:List Term):Wy0 (Bool):=.i (Int.ofNat a.length==1) (.i (decide ((0:Int)≤(0:Int))&&decide (0<Int.ofNat a.length)) (.k (Int.ofNat (a.getD (Int.toNat 0) default).Factors.length==0)) .d) (.k false)
def zla (a:List Term):Bool×Bool:=(znP a).fin default
def zm4 (r:Bool):ARes ty:=⟨[.pure (.lit (.bool r))],[]⟩
def zn0:AL base (List Term×Unit):=zf (zg (vSl 152)) aNil
def zmp:Ab.Spec ty:=zn zn0 fun x=>((zla x.1).1,zm4 (zla x.1).2)
theorem zsg:Sound Tryz.prog base 152 zmp:=
 zy (cx':=zuI) zG zr zC (zA trivial) Tryz.call152 Tryz.func152 (c:=body Tryz.f152) (by kernel_rfl) (zi (l:=[]) (by kernel_rfl) trivial) (sg:=⟨[.pure],[]⟩) (A:=zn0) (res:=zm4) (W:=fun x=>znP x.1) (z:=default)
def zx1:Cx ty:=mkCx base 42 [(109,ziN)] [] [] [] [] []
def zrv (a:List Term):Wy0 (Bool):=.i (Int.ofNat a.length != 1) (.k false) (.i (decide ((0:Int)≤(0:Int))&&decide (0<Int.ofNat a.length)) (.i ((a.getD (Int.toNat 0) default).Coeff != 1) (.k false) (.i (decide ((0:Int)≤(0:Int))&&decide (0<Int.ofNat a.length)) (.i (Int.ofNat (a.getD (Int.toNat 0) default).Factors.length != 1) (.k false) (.i (decide ((0:Int)≤(0:Int))&&decide (0<Int.ofNat a.length)) (.i (decide ((0:Int)≤(0:Int))&&decide (0<Int.ofNat (a.getD (Int.toNat 0) default).Factors.length)) (.i (((a.getD (Int.toNat 0) default).Factors.getD (Int.toNat 0) default).Exp==1) (.i (((a.getD (Int.toNat 0) default).Factors.getD (Int.toNat 0) default).Atom.Kind==2) (.k true) (.bn (ziy (Atom.mk ((a.getD (Int.toNat 0) default).Factors.getD (Int.toNat 0) default).Atom.Kind ((a.getD (Int.toNat 0) default).Factors.getD (Int.toNat 0) default).Atom.Row ((a.getD (Int.toNat 0) default).Factors.getD (Int.toNat 0) default).Atom.Args ((a.getD (Int.toNat 0) default).Factors.getD (Int.toNat 0) default).Atom.Func ((a.getD (Int.toNat 0) default).Factors.getD (Int.toNat 0) default).Atom.Items ((a.getD (Int.toNat 0) default).Factors.getD (Int.toNat 0) default).Atom.Op ((a.getD (Int.toNat 0) default).Factors.getD (Int.toNat 0) default).Atom.Bound)) fun r0=>.k r0)) (.k false)) .d) .d)) .d)) .d)
def zoj (a:List Term):Bool×Bool:=(zrv a).fin default
def zpB (r:Bool):ARes ty:=⟨[.pure (.lit (.bool r))],[]⟩
def zrr:AL base (List Term×Unit):=zf (zg (vSl 152)) aNil
def zoS:Ab.Spec ty:=zn zrr fun x=>((zoj x.1).1,zpB (zoj x.1).2)
theorem zu9:Sound Tryz.prog base 153 zoS:=
 zy (cx':=zx1) zG zr zC (zA ⟨zly,trivial⟩) Tryz.call153 Tryz.func153 (c:=body Tryz.f153) (by kernel_rfl) (zi (l:=[]) (by kernel_rfl) trivial) (sg:=⟨[.pure],[]⟩) (A:=zrr) (res:=zpB) (W:=fun x=>zrv x.1) (z:=default)
def zA6:Cx ty:=mkCx base 11 [] [] [] [] [] []
def zxj (id:RowID):Wy0 (Bool):=.i (decide (id.Table≥1)) (.k (decide (id.Seq≥1))) (.k false)
def zuL (id:RowID):Bool×Bool:=(zxj id).fin default
def ztW (r:Bool):ARes ty:=⟨[.pure (.lit (.bool r))],[]⟩
def zw2:AL base (RowID×Unit):=zf (zg (vAgg 155)) aNil
def zth:Ab.Spec ty:=zn zw2 fun x=>((zuL x.1).1,ztW (zuL x.1).2)
theorem zyW:Sound Tryz.prog base 150 zth:=
 zy (cx':=zA6) zG zr zC (zA trivial) Tryz.call150 Tryz.func150 (c:=body Tryz.f150) (by kernel_rfl) (zi (l:=[]) (by kernel_rfl) trivial) (sg:=⟨[.pure],[]⟩) (A:=zw2) (res:=ztW) (W:=fun x=>zxj x.1) (z:=default)
abbrev ttTslicesIsSortedFuncLapiWeightedapiWeighted0:=List Weighted×Unit×Int×Unit
def zjq (x_:List Weighted) (i:Int):Wy ttTslicesIsSortedFuncLapiWeightedapiWeighted0 (Unit) (Bool⊕Unit):=.i (decide (i>0)) (.i (decide (0≤i)&&decide (i<Int.ofNat x_.length)) (.i (decide (0≤IntKind.i64.wrap (i - 1))&&decide (IntKind.i64.wrap (i - 1)<Int.ofNat x_.length)) (.bn (znO (x_.getD i.toNat default) (x_.getD (IntKind.i64.wrap (i - 1)).toNat default)) fun r0=>.i (decide (r0<0)) (.k (.inl false)) (.h (x_,(),(IntKind.i64.wrap (i - 1)),()) ())) .d) .d) (.k (.inr ()))
def zcD (x:ttTslicesIsSortedFuncLapiWeightedapiWeighted0) (y:Unit):Wy ttTslicesIsSortedFuncLapiWeightedapiWeighted0 (Unit) (Bool⊕Unit):=zjq x.1 x.2.2.1
def zjp (n:Nat) (x_:List Weighted) (i:Int):Bool×(Bool⊕Unit):=zba (zcD) (.inl default) n (x_,(),i,()) ()
def zeW (r:Bool⊕Unit):LTree ty:=.ite (isL r) (.done .ret [.lit (.bool (getL r))] []) (.done (.exit 0) [] [])
def ze2:LL ty ttTslicesIsSortedFuncLapiWeightedapiWeighted0:=za (lSl 182) (za (lFn 147 (zF)) (za (lInt .i64) zF))
def ze3:BL ty (Unit):=bNil
def ze1:Cx ty:=mkCx base 25 [(147,annotation_compareItems_spec)] [] [(2,[(0,.keep),(1,.keep),(5,.keep)])] [(2,1,[]),(2,0,[(4,.keep)])] [(2,spW ze2 ze3 (zcD) (.inl default) zeW fun x y=>(x.1.length+Int.toNat x.2.2.1+1000))] []
theorem zje:z8 ze1 (lp (body Tryz.f157) 0):=zQ (id:=2) (V:=ze2) (B:=ze3) (W:=zcD) (z:=.inl default) (tr:=zeW) (m:=fun x y=>(x.1.length+Int.toNat x.2.2.1+1000))
def zfj (x_:List Weighted):Wy0 (Bool):=.bn (zjp (x_.length+(IntKind.i64.wrap (Int.ofNat x_.length - 1)).toNat +1000) x_ (IntKind.i64.wrap (Int.ofNat x_.length - 1))) fun r2=>.i (isL r2) (.k (getL r2)) (.k true)
def zcX (x_:List Weighted):Bool×Bool:=(zfj x_).fin default
def zeQ (r:Bool):ARes ty:=⟨[.pure (.lit (.bool r))],[]⟩
def zfm:AL base (List Weighted×Unit×Unit):=zf (zg (vSl 182)) (zf (zg (vFn 147 vNil)) aNil)
def zet:Ab.Spec ty:=zn zfm fun x=>((zcX x.1).1,zeQ (zcX x.1).2)
theorem ziL:Sound Tryz.prog base 157 zet:=
 zy (cx':=ze1) zG zr zC (zA ⟨zkH,trivial⟩) Tryz.call157 Tryz.func157 (c:=body Tryz.f157) (by kernel_rfl) (zi (l:=[lp (body Tryz.f157) 0]) (by kernel_rfl) ⟨zje,trivial⟩) (sg:=⟨[.pure],[]⟩) (A:=zfm) (res:=zeQ) (W:=fun x=>zfj x.1) (z:=default)
def zbJ (zb:List (List Term)→Bool×Bool) (ze:List Term→Bool×Bool) (zc:List Weighted→Bool×Bool) (zd:Weighted→Bool×Bool):Cx ty:=mkCx base 149 [(147,annotation_compareItems_spec),(148,(zbp zb)),(149,(zb1 ze)),(150,zth),(151,zpr),(152,zmp),(153,zoS),(154,zlJ),(155,(zbA zc)),(156,(zb0 zd)),(157,zet),(158,znZ)] [] [] [] [] []
def zbt (zb:List (List Term)→Bool×Bool) (ze:List Term→Bool×Bool) (zc:List Weighted→Bool×Bool) (zd:Weighted→Bool×Bool) (x_:Atom):Wy0 (Bool):=.i (x_.Kind==0) (.i (x_.Func != 0) (.k false) (.i (Int.ofNat x_.Items.length != 0) (.k false) (.i (x_.Op != 0) (.k false) (.i (!(x_.Bound.Kind==0&&(x_.Bound.Int==0&&(x_.Bound.Text.toList==(ByteArray.mk #[]).toList&&true)))) (.k false) (.bn (zb x_.Args) fun r1=>.i (r1) (.k false) (.bn (zuL x_.Row) fun r0=>.i (r0) (.k (Int.ofNat x_.Args.length==0)) (.k false))))))) (.i (x_.Kind==1) (.i (x_.Func != 0) (.k false) (.i (Int.ofNat x_.Items.length != 0) (.k false) (.i (x_.Op != 0) (.k false) (.i (!(x_.Bound.Kind==0&&(x_.Bound.Int==0&&(x_.Bound.Text.toList==(ByteArray.mk #[]).toList&&true)))) (.k false) (.i (!(x_.Row.Table==0&&(x_.Row.Seq==0&&true))) (.k false) (.bn (zb x_.Args) fun r3=>.i (r3) (.k false) (.i (Int.ofNat x_.Args.length==2) (.i (decide ((0:Int)≤(0:Int))&&decide (0<Int.ofNat x_.Args.length)) (.i (decide ((0:Int)≤(1:Int))&&decide (1<Int.ofNat x_.Args.length)) (.bn (zpk (x_.Args.getD (Int.toNat 0) default) (x_.Args.getD (Int.toNat 1) default)) fun r2=>.k (!r2)) .d) .d) (.k false)))))))) (.i (x_.Kind==2) (.i (x_.Func != 0) (.k false) (.i (Int.ofNat x_.Items.length != 0) (.k false) (.i (x_.Op != 0) (.k false) (.i (!(x_.Bound.Kind==0&&(x_.Bound.Int==0&&(x_.Bound.Text.toList==(ByteArray.mk #[]).toList&&true)))) (.k false) (.i (!(x_.Row.Table==0&&(x_.Row.Seq==0&&true))) (.k false) (.bn (zb x_.Args) fun r6=>.i (r6) (.k false) (.i (Int.ofNat x_.Args.length==1) (.i (decide ((0:Int)≤(0:Int))&&decide (0<Int.ofNat x_.Args.length)) (.bn (zla (x_.Args.getD (Int.toNat 0) default)) fun r5=>.i (!r5) (.i (decide ((0:Int)≤(0:Int))&&decide (0<Int.ofNat x_.Args.length)) (.bn (zoj (x_.Args.getD (Int.toNat 0) default)) fun r4=>.k (!r4)) .d) (.k false)) .d) (.k false)))))))) (.i (x_.Kind==3) (.i (x_.Func != 0) (.k false) (.i (Int.ofNat x_.Items.length != 0) (.k false) (.i (x_.Op != 0) (.k false) (.i (!(x_.Bound.Kind==0&&(x_.Bound.Int==0&&(x_.Bound.Text.toList==(ByteArray.mk #[]).toList&&true)))) (.k false) (.i (!(x_.Row.Table==0&&(x_.Row.Seq==0&&true))) (.k false) (.bn (zb x_.Args) fun r8=>.i (r8) (.k false) (.i (Int.ofNat x_.Args.length==1) (.i (decide ((0:Int)≤(0:Int))&&decide (0<Int.ofNat x_.Args.length)) (.bn (zko (x_.Args.getD (Int.toNat 0) default)) fun r7=>.k (!r7)) .d) (.k false)))))))) (.i (x_.Kind==4) (.i (!(x_.Row.Table==0&&(x_.Row.Seq==0&&true))) (.k false) (.bn (zb x_.Args) fun r12=>.i (r12) (.k false) (.bn (zc x_.Items) fun r11=>.i (Int.ofNat x_.Args.length==0) (.i (decide (Int.ofNat x_.Items.length>0)) (.i (!r11) (.bn (zcX x_.Items) fun r10=>.i (r10) (.bn (znl x_.Func x_.Items x_.Op x_.Bound) fun r9=>.k r9) (.k false)) (.k false)) (.k false)) (.k false)))) (.i (x_.Func != 0) (.k false) (.i (Int.ofNat x_.Items.length != 0) (.k false) (.i (x_.Op != 0) (.k false) (.i (!(x_.Bound.Kind==0&&(x_.Bound.Int==0&&(x_.Bound.Text.toList==(ByteArray.mk #[]).toList&&true)))) (.k false) (.i (!(x_.Row.Table==0&&(x_.Row.Seq==0&&true))) (.k false) (.bn (zb x_.Args) fun r14=>.i (r14) (.k false) (.k false)))))))))))
def zoI (zb:List (List Term)→Bool×Bool) (ze:List Term→Bool×Bool) (zc:List Weighted→Bool×Bool) (zd:Weighted→Bool×Bool) (x_:Atom):Bool×Bool:=(zbt zb ze zc zd x_).fin default
theorem zsi (zb:List (List Term)→Bool×Bool) (ze:List Term→Bool×Bool) (zc:List Weighted→Bool×Bool) (zd:Weighted→Bool×Bool) (v_Row:RowID) (v_Args:List (List Term)) (v_Func:Int) (v_Items:List Weighted) (v_Op:Int) (v_Bound:Value)  :zgM (zbJ zb ze zc zd) Tryz.f111 (body Tryz.f111) ⟨[.pure],[]⟩ [.pure (.agg (base.enc 158 (Atom.mk (Int.ofNat 0) v_Row v_Args v_Func v_Items v_Op v_Bound)))]=(zbt zb ze zc zd (Atom.mk (Int.ofNat 0) v_Row v_Args v_Func v_Items v_Op v_Bound)).ev noH (fun r=>some (zbs r)) none:=by kernel_rfl
theorem zsy (zb:List (List Term)→Bool×Bool) (ze:List Term→Bool×Bool) (zc:List Weighted→Bool×Bool) (zd:Weighted→Bool×Bool) (v_Row:RowID) (v_Args:List (List Term)) (v_Func:Int) (v_Items:List Weighted) (v_Op:Int) (v_Bound:Value)  :zgM (zbJ zb ze zc zd) Tryz.f111 (body Tryz.f111) ⟨[.pure],[]⟩ [.pure (.agg (base.enc 158 (Atom.mk (Int.ofNat 1) v_Row v_Args v_Func v_Items v_Op v_Bound)))]=(zbt zb ze zc zd (Atom.mk (Int.ofNat 1) v_Row v_Args v_Func v_Items v_Op v_Bound)).ev noH (fun r=>some (zbs r)) none:=by kernel_rfl
theorem zse (zb:List (List Term)→Bool×Bool) (ze:List Term→Bool×Bool) (zc:List Weighted→Bool×Bool) (zd:Weighted→Bool×Bool) (v_Row:RowID) (v_Args:List (List Term)) (v_Func:Int) (v_Items:List Weighted) (v_Op:Int) (v_Bound:Value)  :zgM (zbJ zb ze zc zd) Tryz.f111 (body Tryz.f111) ⟨[.pure],[]⟩ [.pure (.agg (base.enc 158 (Atom.mk (Int.ofNat 2) v_Row v_Args v_Func v_Items v_Op v_Bound)))]=(zbt zb ze zc zd (Atom.mk (Int.ofNat 2) v_Row v_Args v_Func v_Items v_Op v_Bound)).ev noH (fun r=>some (zbs r)) none:=by kernel_rfl
theorem zsN (zb:List (List Term)→Bool×Bool) (ze:List Term→Bool×Bool) (zc:List Weighted→Bool×Bool) (zd:Weighted→Bool×Bool) (v_Row:RowID) (v_Args:List (List Term)) (v_Func:Int) (v_Items:List Weighted) (v_Op:Int) (v_Bound:Value)  :zgM (zbJ zb ze zc zd) Tryz.f111 (body Tryz.f111) ⟨[.pure],[]⟩ [.pure (.agg (base.enc 158 (Atom.mk (Int.ofNat 3) v_Row v_Args v_Func v_Items v_Op v_Bound)))]=(zbt zb ze zc zd (Atom.mk (Int.ofNat 3) v_Row v_Args v_Func v_Items v_Op v_Bound)).ev noH (fun r=>some (zbs r)) none:=by kernel_rfl
theorem zsw (zb:List (List Term)→Bool×Bool) (ze:List Term→Bool×Bool) (zc:List Weighted→Bool×Bool) (zd:Weighted→Bool×Bool) (v_Row:RowID) (v_Args:List (List Term)) (v_Func:Int) (v_Items:List Weighted) (v_Op:Int) (v_Bound:Value)  :zgM (zbJ zb ze zc zd) Tryz.f111 (body Tryz.f111) ⟨[.pure],[]⟩ [.pure (.agg (base.enc 158 (Atom.mk (Int.ofNat 4) v_Row v_Args v_Func v_Items v_Op v_Bound)))]=(zbt zb ze zc zd (Atom.mk (Int.ofNat 4) v_Row v_Args v_Func v_Items v_Op v_Bound)).ev noH (fun r=>some (zbs r)) none:=by kernel_rfl
theorem zso (zb:List (List Term)→Bool×Bool) (ze:List Term→Bool×Bool) (zc:List Weighted→Bool×Bool) (zd:Weighted→Bool×Bool) (n:Nat) (v_Row:RowID) (v_Args:List (List Term)) (v_Func:Int) (v_Items:List Weighted) (v_Op:Int) (v_Bound:Value)  :zgM (zbJ zb ze zc zd) Tryz.f111 (body Tryz.f111) ⟨[.pure],[]⟩ [.pure (.agg (base.enc 158 (Atom.mk (Int.ofNat (n+5)) v_Row v_Args v_Func v_Items v_Op v_Bound)))]=(zbt zb ze zc zd (Atom.mk (Int.ofNat (n+5)) v_Row v_Args v_Func v_Items v_Op v_Bound)).ev noH (fun r=>some (zbs r)) none:=by kernel_rfl
theorem zsu (zb:List (List Term)→Bool×Bool) (ze:List Term→Bool×Bool) (zc:List Weighted→Bool×Bool) (zd:Weighted→Bool×Bool) (n:Nat) (v_Row:RowID) (v_Args:List (List Term)) (v_Func:Int) (v_Items:List Weighted) (v_Op:Int) (v_Bound:Value)  :zgM (zbJ zb ze zc zd) Tryz.f111 (body Tryz.f111) ⟨[.pure],[]⟩ [.pure (.agg (base.enc 158 (Atom.mk (Int.negSucc n) v_Row v_Args v_Func v_Items v_Op v_Bound)))]=(zbt zb ze zc zd (Atom.mk (Int.negSucc n) v_Row v_Args v_Func v_Items v_Op v_Bound)).ev noH (fun r=>some (zbs r)) none:=by kernel_rfl
theorem zs6 (zb:List (List Term)→Bool×Bool) (ze:List Term→Bool×Bool) (zc:List Weighted→Bool×Bool) (zd:Weighted→Bool×Bool) (x_:Atom):zgM (zbJ zb ze zc zd) Tryz.f111 (body Tryz.f111) ⟨[.pure],[]⟩ [.pure (.agg (base.enc 158 x_))]=(zbt zb ze zc zd x_).ev noH (fun r=>some (zbs r)) none:=by
 obtain ⟨v_Kind,v_Row,v_Args,v_Func,v_Items,v_Op,v_Bound⟩:=x_
 match v_Kind with
 | .ofNat 0=>exact zsi zb ze zc zd v_Row v_Args v_Func v_Items v_Op v_Bound 
 | .ofNat 1=>exact zsy zb ze zc zd v_Row v_Args v_Func v_Items v_Op v_Bound 
 | .ofNat 2=>exact zse zb ze zc zd v_Row v_Args v_Func v_Items v_Op v_Bound 
 | .ofNat 3=>exact zsN zb ze zc zd v_Row v_Args v_Func v_Items v_Op v_Bound 
 | .ofNat 4=>exact zsw zb ze zc zd v_Row v_Args v_Func v_Items v_Op v_Bound 
 | .ofNat (n+5)=>exact zso zb ze zc zd n v_Row v_Args v_Func v_Items v_Op v_Bound 
 | .negSucc n=>exact zsu zb ze zc zd n v_Row v_Args v_Func v_Items v_Op v_Bound 
theorem zr4 (zb:List (List Term)→Bool×Bool) (ze:List Term→Bool×Bool) (zc:List Weighted→Bool×Bool) (zd:Weighted→Bool×Bool) (zhW:Sound Tryz.prog base 148 (zbp zb)) (zdX:Sound Tryz.prog base 149 (zb1 ze)) (ziw:Sound Tryz.prog base 155 (zbA zc)) (zdY:Sound Tryz.prog base 156 (zb0 zd)):Sound Tryz.prog base 111 (zic (zoI zb ze zc zd)):=
 zy (cx':=(zbJ zb ze zc zd)) zG zr zC (zA ⟨zkH,zhW,zdX,zyW,zvQ,zsg,zu9,zr5,ziw,zdY,ziL,zuy,trivial⟩) Tryz.call111 Tryz.func111 (c:=body Tryz.f111) (by kernel_rfl) (zi (l:=[]) (by kernel_rfl) trivial) (sg:=⟨[.pure],[]⟩) (A:=zo1) (res:=zbs) (W:=fun x=>zbt zb ze zc zd x.1) (z:=default) (fun x=>zs6 zb ze zc zd x.1) (fun _=>by kernel_rfl)
def zr2 (zP:List Term→Bool×Bool):Cx ty:=mkCx base 11 [(69,(zfp zP))] [] [] [] [] []
def zlH (zP:List Term→Bool×Bool) (a:List Term):Wy0 (Bool):=.bn (zP a) fun r0=>.i (!r0) (.k true) (.k (Int.ofNat a.length==0))
def zmQ (zP:List Term→Bool×Bool) (a:List Term):Bool×Bool:=(zlH zP a).fin default
theorem zqc (zP:List Term→Bool×Bool) (zlY:Sound Tryz.prog base 69 (zfp zP)):Sound Tryz.prog base 149 (zb1 (zmQ zP)):=
 zy (cx':=(zr2 zP)) zG zr zC (zA ⟨zlY,trivial⟩) Tryz.call149 Tryz.func149 (c:=body Tryz.f149) (by kernel_rfl) (zi (l:=[]) (by kernel_rfl) trivial) (sg:=⟨[.pure],[]⟩) (A:=zmT) (res:=zlI) (W:=fun x=>zlH zP x.1) (z:=default)
def zrG (zP:List Term→Bool×Bool):Cx ty:=mkCx base 13 [(69,(zfp zP))] [] [] [] [] []
def zlO (zP:List Term→Bool×Bool) (w:Weighted):Wy0 (Bool):=.bn (zP w.Ann) fun r0=>.i (!r0) (.k true) (.k (Int.ofNat w.Ann.length==0))
def zmR (zP:List Term→Bool×Bool) (w:Weighted):Bool×Bool:=(zlO zP w).fin default
theorem zqk (zP:List Term→Bool×Bool) (zlY:Sound Tryz.prog base 69 (zfp zP)):Sound Tryz.prog base 156 (zb0 (zmR zP)):=
 zy (cx':=(zrG zP)) zG zr zC (zA ⟨zlY,trivial⟩) Tryz.call156 Tryz.func156 (c:=body Tryz.f156) (by kernel_rfl) (zi (l:=[]) (by kernel_rfl) trivial) (sg:=⟨[.pure],[]⟩) (A:=zmZ) (res:=zlG) (W:=fun x=>zlO zP x.1) (z:=default)
def zhI (ze:List Term→Bool×Bool) (zD:List (List Term)→Bool×Int):Cx ty:=mkCx base 9 [(149,(zb1 ze)),(199,(zbu zD))] [] [] [] [] []
def zdo (ze:List Term→Bool×Bool) (zD:List (List Term)→Bool×Int) (s:List (List Term)):Wy0 (Bool):=.bn (zD s) fun r0=>.k (decide (r0≥0))
def zdS (ze:List Term→Bool×Bool) (zD:List (List Term)→Bool×Int) (s:List (List Term)):Bool×Bool:=(zdo ze zD s).fin default
theorem zhd (ze:List Term→Bool×Bool) (zD:List (List Term)→Bool×Int) (zdX:Sound Tryz.prog base 149 (zb1 ze)) (zij:Sound Tryz.prog base 199 (zbu zD)):Sound Tryz.prog base 148 (zbp (zdS ze zD)):=
 zy (cx':=(zhI ze zD)) zG zr zC (zA ⟨zdX,zij,trivial⟩) Tryz.call148 Tryz.func148 (c:=body Tryz.f148) (by kernel_rfl) (zi (l:=[]) (by kernel_rfl) trivial) (sg:=⟨[.pure],[]⟩) (A:=zdP) (res:=zdp) (W:=fun x=>zdo ze zD x.1) (z:=default)
def zio (zd:Weighted→Bool×Bool) (zH:List Weighted→Bool×Int):Cx ty:=mkCx base 9 [(156,(zb0 zd)),(201,(zbP zH))] [] [] [] [] []
def zec (zd:Weighted→Bool×Bool) (zH:List Weighted→Bool×Int) (s:List Weighted):Wy0 (Bool):=.bn (zH s) fun r0=>.k (decide (r0≥0))
def zev (zd:Weighted→Bool×Bool) (zH:List Weighted→Bool×Int) (s:List Weighted):Bool×Bool:=(zec zd zH s).fin default
theorem zhS (zd:Weighted→Bool×Bool) (zH:List Weighted→Bool×Int) (zdY:Sound Tryz.prog base 156 (zb0 zd)) (zi6:Sound Tryz.prog base 201 (zbP zH)):Sound Tryz.prog base 155 (zbA (zev zd zH)):=
 zy (cx':=(zio zd zH)) zG zr zC (zA ⟨zdY,zi6,trivial⟩) Tryz.call155 Tryz.func155 (c:=body Tryz.f155) (by kernel_rfl) (zi (l:=[]) (by kernel_rfl) trivial) (sg:=⟨[.pure],[]⟩) (A:=zeB) (res:=zd8) (W:=fun x=>zec zd zH x.1) (z:=default)
abbrev ttTslicesIndexFuncLapiAnnotationapiAnnotationv10:=List (List Term)×Unit×Int×Int×Unit
def zid (ze:List Term→Bool×Bool) (s:List (List Term)) (t7:Int) (t8:Int):Wy ttTslicesIndexFuncLapiAnnotationapiAnnotationv10 (Unit) (Int⊕Unit):=.i (decide (t8<t7)) (.i (decide (0≤t8)&&decide (t8<Int.ofNat s.length)) (.bn (ze (s.getD t8.toNat default)) fun r0=>.i (r0) (.k (.inl t8)) (.h (s,(),t7,(IntKind.i64.wrap (t8+1)),()) ())) .d) (.k (.inr ()))
def zb9 (ze:List Term→Bool×Bool) (x:ttTslicesIndexFuncLapiAnnotationapiAnnotationv10) (y:Unit):Wy ttTslicesIndexFuncLapiAnnotationapiAnnotationv10 (Unit) (Int⊕Unit):=zid ze x.1 x.2.2.1 x.2.2.2.1
def zia (ze:List Term→Bool×Bool) (n:Nat) (s:List (List Term)) (t7:Int) (t8:Int):Bool×(Int⊕Unit):=zba (zb9 ze) (.inl default) n (s,(),t7,t8,()) ()
def zdE (r:Int⊕Unit):LTree ty:=.ite (isL r) (.done .ret [.lit (.int .i64 (getL r))] []) (.done (.exit 0) [] [])
def zdR:LL ty ttTslicesIndexFuncLapiAnnotationapiAnnotationv10:=za (lSl 36) (za (lFn 149 (zF)) (za (lInt .i64) (za (lInt .i64) zF)))
def zdN:BL ty (Unit):=bNil
def zdI (x:ttTslicesIndexFuncLapiAnnotationapiAnnotationv10) (y:Unit):Nat:=(x.1.length+Int.toNat x.2.2.1+Int.toNat x.2.2.2.1+1000)
def zdL (ze:List Term→Bool×Bool):Cx ty:=mkCx base 19 [(149,(zb1 ze))] [] [(2,[(0,.keep),(1,.keep),(7,.keep),(8,.keep)])] [(2,1,[]),(2,0,[(4,.keep)])] [(2,spW zdR zdN (zb9 ze) (.inl default) zdE zdI)] []
theorem zh0 (ze:List Term→Bool×Bool):z8 (zdL ze) (lp (body Tryz.f199) 0):=zQ (id:=2) (V:=zdR) (B:=zdN) (W:=zb9 ze) (z:=.inl default) (tr:=zdE) (m:=zdI)
def zd0 (ze:List Term→Bool×Bool) (s:List (List Term)):Wy0 (Int):=.bn (zia ze (s.length+(Int.ofNat s.length).toNat +Int.toNat 0+1000) s (Int.ofNat s.length) 0) fun r2=>.i (isL r2) (.k (getL r2)) (.k (-1:Int))
def zej (ze:List Term→Bool×Bool) (s:List (List Term)):Bool×Int:=(zd0 ze s).fin default
theorem zhE (ze:List Term→Bool×Bool) (zdX:Sound Tryz.prog base 149 (zb1 ze)):Sound Tryz.prog base 199 (zbu (zej ze)):=
 zy (cx':=(zdL ze)) zG zr zC (zA ⟨zdX,trivial⟩) Tryz.call199 Tryz.func199 (c:=body Tryz.f199) (by kernel_rfl) (zi (l:=[lp (body Tryz.f199) 0]) (by kernel_rfl) ⟨zh0 ze,trivial⟩) (sg:=⟨[.pure],[]⟩) (A:=zef) (res:=zd2) (W:=fun x=>zd0 ze x.1) (z:=default)
abbrev ttTslicesIndexFuncLapiWeightedapiWeightedv20:=List Weighted×Unit×Int×Int×Unit
def zi1 (zd:Weighted→Bool×Bool) (s:List Weighted) (t7:Int) (t8:Int):Wy ttTslicesIndexFuncLapiWeightedapiWeightedv20 (Unit) (Int⊕Unit):=.i (decide (t8<t7)) (.i (decide (0≤t8)&&decide (t8<Int.ofNat s.length)) (.bn (zd (s.getD t8.toNat default)) fun r0=>.i (r0) (.k (.inl t8)) (.h (s,(),t7,(IntKind.i64.wrap (t8+1)),()) ())) .d) (.k (.inr ()))
def zcs (zd:Weighted→Bool×Bool) (x:ttTslicesIndexFuncLapiWeightedapiWeightedv20) (y:Unit):Wy ttTslicesIndexFuncLapiWeightedapiWeightedv20 (Unit) (Int⊕Unit):=zi1 zd x.1 x.2.2.1 x.2.2.2.1
def ziT (zd:Weighted→Bool×Bool) (n:Nat) (s:List Weighted) (t7:Int) (t8:Int):Bool×(Int⊕Unit):=zba (zcs zd) (.inl default) n (s,(),t7,t8,()) ()
def zel (r:Int⊕Unit):LTree ty:=.ite (isL r) (.done .ret [.lit (.int .i64 (getL r))] []) (.done (.exit 0) [] [])
def zes:LL ty ttTslicesIndexFuncLapiWeightedapiWeightedv20:=za (lSl 182) (za (lFn 156 (zF)) (za (lInt .i64) (za (lInt .i64) zF)))
def zeC:BL ty (Unit):=bNil
def zem (x:ttTslicesIndexFuncLapiWeightedapiWeightedv20) (y:Unit):Nat:=(x.1.length+Int.toNat x.2.2.1+Int.toNat x.2.2.2.1+1000)
def zez (zd:Weighted→Bool×Bool):Cx ty:=mkCx base 19 [(156,(zb0 zd))] [] [(2,[(0,.keep),(1,.keep),(7,.keep),(8,.keep)])] [(2,1,[]),(2,0,[(4,.keep)])] [(2,spW zes zeC (zcs zd) (.inl default) zel zem)] []
theorem ziI (zd:Weighted→Bool×Bool):z8 (zez zd) (lp (body Tryz.f201) 0):=zQ (id:=2) (V:=zes) (B:=zeC) (W:=zcs zd) (z:=.inl default) (tr:=zel) (m:=zem)
def zeV (zd:Weighted→Bool×Bool) (s:List Weighted):Wy0 (Int):=.bn (ziT zd (s.length+(Int.ofNat s.length).toNat +Int.toNat 0+1000) s (Int.ofNat s.length) 0) fun r2=>.i (isL r2) (.k (getL r2)) (.k (-1:Int))
def zfo (zd:Weighted→Bool×Bool) (s:List Weighted):Bool×Int:=(zeV zd s).fin default
theorem zik (zd:Weighted→Bool×Bool) (zdY:Sound Tryz.prog base 156 (zb0 zd)):Sound Tryz.prog base 201 (zbP (zfo zd)):=
 zy (cx':=(zez zd)) zG zr zC (zA ⟨zdY,trivial⟩) Tryz.call201 Tryz.func201 (c:=body Tryz.f201) (by kernel_rfl) (zi (l:=[lp (body Tryz.f201) 0]) (by kernel_rfl) ⟨ziI zd,trivial⟩) (sg:=⟨[.pure],[]⟩) (A:=zfe) (res:=zeT) (W:=fun x=>zeV zd x.1) (z:=default)
def zcC:Nat→(List Term→Bool×Bool)×(Atom→Bool×Bool)×(List Term→Bool×Bool)×(Weighted→Bool×Bool)×(List (List Term)→Bool×Int)×(List (List Term)→Bool×Bool)×(List Weighted→Bool×Int)×(List Weighted→Bool×Bool)
 | 0=>(fun _=>(false,default),fun _=>(false,default),fun _=>(false,default),fun _=>(false,default),fun _=>(false,default),fun _=>(false,default),fun _=>(false,default),fun _=>(false,default))
 | n+1=>(zsn ((zcC n).2.1),zoI ((zcC n).2.2.2.2.2.1) ((zcC n).2.2.1) ((zcC n).2.2.2.2.2.2.2) ((zcC n).2.2.2.1),zmQ ((zcC n).1),zmR ((zcC n).1),zej ((zcC n).2.2.1),zdS ((zcC n).2.2.1) ((zcC n).2.2.2.2.1),zfo ((zcC n).2.2.2.1),zev ((zcC n).2.2.2.1) ((zcC n).2.2.2.2.2.2.1))
def zst (n:Nat):List Term→Bool×Bool:=(zcC n).1
def zwc (n:Nat):Atom→Bool×Bool:=(zcC n).2.1
def ztD (n:Nat):List Term→Bool×Bool:=(zcC n).2.2.1
def ztK (n:Nat):Weighted→Bool×Bool:=(zcC n).2.2.2.1
def ziP (n:Nat):List (List Term)→Bool×Int:=(zcC n).2.2.2.2.1
def zh9 (n:Nat):List (List Term)→Bool×Bool:=(zcC n).2.2.2.2.2.1
def zjz (n:Nat):List Weighted→Bool×Int:=(zcC n).2.2.2.2.2.2.1
def zi0 (n:Nat):List Weighted→Bool×Bool:=(zcC n).2.2.2.2.2.2.2
theorem zAb:∀ n,Sound Tryz.prog base 69 (zfp (zst n))∧Sound Tryz.prog base 111 (zic (zwc n))∧Sound Tryz.prog base 149 (zb1 (ztD n))∧Sound Tryz.prog base 156 (zb0 (ztK n))∧Sound Tryz.prog base 199 (zbu (ziP n))∧Sound Tryz.prog base 148 (zbp (zh9 n))∧Sound Tryz.prog base 201 (zbP (zjz n))∧Sound Tryz.prog base 155 (zbA (zi0 n))
 | 0=>⟨zbi Tryz.call69 (fun _=>rfl),zbi Tryz.call111 (fun _=>rfl),zbi Tryz.call149 (fun _=>rfl),zbi Tryz.call156 (fun _=>rfl),zbi Tryz.call199 (fun _=>rfl),zbi Tryz.call148 (fun _=>rfl),zbi Tryz.call201 (fun _=>rfl),zbi Tryz.call155 (fun _=>rfl)⟩
 | n+1=>by
  have ih:=zAb n
  exact ⟨zua _ (ih.2.1),zr4 _ _ _ _ (ih.2.2.2.2.2.1) (ih.2.2.1) (ih.2.2.2.2.2.2.2) (ih.2.2.2.1),zqc _ (ih.1),zqk _ (ih.1),zhE _ (ih.2.2.1),zhd _ _ (ih.2.2.1) (ih.2.2.2.2.1),zik _ (ih.2.2.2.1),zhS _ _ (ih.2.2.2.1) (ih.2.2.2.2.2.2.1)⟩
def zub:List Term→Bool×Bool:=zst 1000
def annotation_Valid_spec:Ab.Spec ty:=zfp zub
theorem zv6:Sound Tryz.prog base 69 annotation_Valid_spec:=(zAb 1000).1
def zyV (r:List Term×Int):ARes ty:=⟨[.own 152 r.1,.pure (.lit (.int .i64 r.2))],[]⟩
def zAE:AL base (List Term×List Term×Unit):=zf (zg (vSl 152)) (zf (zg (vSl 152)) aNil)
def zAA (F:List Term→List Term→Bool×(List Term×Int)):Ab.Spec ty:=zn zAE fun x=>((F x.1 x.2.1).1,zyV (F x.1 x.2.1).2)
def zw6:List Term→List Term→Bool×(List Term×Int):=fun a _=>(decide (a.length=a.length+1),default)
def annotation_Add_spec:Ab.Spec ty:=zAA zw6
theorem zx9:Sound Tryz.prog base 77 annotation_Add_spec:=zbi Tryz.call77 (fun _=>decide_eq_false (Nat.ne_of_lt (Nat.lt_succ_self _)))
def zuN:Cx ty:=mkCx base 7 [] [] [] [] [] []
def zn1 (x_:Row):Wy0 (Bool):=.k (Int.ofNat x_.Ann.length==0)
def ziz (x_:Row):Bool×Bool:=(zn1 x_).fin default
def zmM (r:Bool):ARes ty:=⟨[.pure (.lit (.bool r))],[]⟩
def znR:AL base (Row×Unit):=zf (zg (vAgg 38)) aNil
def zgL:Ab.Spec ty:=zn znR fun x=>((ziz x.1).1,zmM (ziz x.1).2)
theorem ziu:Sound Tryz.prog base 72 zgL:=
 zy (cx':=zuN) zG zr zC (zA trivial) Tryz.call72 Tryz.func72 (c:=body Tryz.f72) (by kernel_rfl) (zi (l:=[]) (by kernel_rfl) trivial) (sg:=⟨[.pure],[]⟩) (A:=znR) (res:=zmM) (W:=fun x=>zn1 x.1) (z:=default)
abbrev ttTslicesCompareFuncLapiValueLapiValueapiValueapiValue0:=List Value×List Value×Unit×List Value×Int×Int×Unit
abbrev ttTslicesCompareFuncLapiValueLapiValueapiValueapiValue1:=Int⊕(List Value×List Value)
def zg2 (s1:List Value) (s2:List Value) (t11:List Value) (t12:Int) (t13:Int):Wy ttTslicesCompareFuncLapiValueLapiValueapiValueapiValue0 (Unit) ttTslicesCompareFuncLapiValueLapiValueapiValueapiValue1:=.i (decide (t13<t12)) (.i (decide (0≤t13)&&decide (t13<Int.ofNat t11.length)) (.i (decide (t13≥Int.ofNat s2.length)) (.k (.inl 1)) (.i (decide (0≤t13)&&decide (t13<Int.ofNat s2.length)) (.bn (zbK (t11.getD t13.toNat default) (s2.getD t13.toNat default)) fun r0=>.i (r0 != 0) (.k (.inl (r0))) (.h (s1,s2,(),t11,t12,(IntKind.i64.wrap (t13+1)),()) ())) .d)) .d) (.k (.inr (s1,s2)))
def zbI (x:ttTslicesCompareFuncLapiValueLapiValueapiValueapiValue0) (y:Unit):Wy ttTslicesCompareFuncLapiValueLapiValueapiValueapiValue0 (Unit) ttTslicesCompareFuncLapiValueLapiValueapiValueapiValue1:=zg2 x.1 x.2.1 x.2.2.2.1 x.2.2.2.2.1 x.2.2.2.2.2.1
def zg6 (n:Nat) (s1:List Value) (s2:List Value) (t11:List Value) (t12:Int) (t13:Int):Bool×ttTslicesCompareFuncLapiValueLapiValueapiValueapiValue1:=zba (zbI) (.inl default) n (s1,s2,(),t11,t12,t13,()) ()
def zcJ (r:ttTslicesCompareFuncLapiValueLapiValueapiValueapiValue1):LTree ty:=.ite (isL r) (.done .ret [.lit (.int .i64 (getL r))] []) (.done (.exit 0) [.sl 40 (getR r).1,.sl 40 (getR r).2] [])
def zcO:LL ty ttTslicesCompareFuncLapiValueLapiValueapiValueapiValue0:=za (lSl 40) (za (lSl 40) (za (lFn 79 (zF)) (za (lSl 40) (za (lInt .i64) (za (lInt .i64) zF)))))
def zcL:BL ty (Unit):=bNil
def zcG (x:ttTslicesCompareFuncLapiValueLapiValueapiValueapiValue0) (y:Unit):Nat:=(x.1.length+x.2.1.length+x.2.2.2.1.length+Int.toNat x.2.2.2.2.1+Int.toNat x.2.2.2.2.2.1+1000)
def zcM:Cx ty:=mkCx base 39 [(79,zcc)] [] [(2,[(0,.keep),(1,.keep),(2,.keep),(11,.keep),(12,.keep),(13,.keep)])] [(2,1,[(0,.keep),(1,.keep)]),(2,0,[(6,.keep)])] [(2,spW zcO zcL (zbI) (.inl default) zcJ zcG)] []
theorem zgW:z8 zcM (lp (body Tryz.f161) 0):=zQ (id:=2) (V:=zcO) (B:=zcL) (W:=zbI) (z:=.inl default) (tr:=zcJ) (m:=zcG)
def zcQ (s1:List Value) (s2:List Value):Wy0 (Int):=.bn (zg6 (s1.length+s2.length+s1.length+(Int.ofNat s1.length).toNat +Int.toNat 0+1000) s1 s2 s1 (Int.ofNat s1.length) 0) fun r2=>.i (isL r2) (.k (getL r2)) (.i (decide (Int.ofNat (getR r2).1.length<Int.ofNat (getR r2).2.length)) (.k (-1:Int)) (.k 0))
def zbO (s1:List Value) (s2:List Value):Bool×Int:=(zcQ s1 s2).fin default
def zcI (r:Int):ARes ty:=⟨[.pure (.lit (.int .i64 r))],[]⟩
def zcR:AL base (List Value×List Value×Unit×Unit):=zf (zg (vSl 40)) (zf (zg (vSl 40)) (zf (zg (vFn 79 vNil)) aNil))
def zcF:Ab.Spec ty:=zn zcR fun x=>((zbO x.1 x.2.1).1,zcI (zbO x.1 x.2.1).2)
theorem zgu:Sound Tryz.prog base 161 zcF:=
 zy (cx':=zcM) zG zr zC (zA ⟨zcl,trivial⟩) Tryz.call161 Tryz.func161 (c:=body Tryz.f161) (by kernel_rfl) (zi (l:=[lp (body Tryz.f161) 0]) (by kernel_rfl) ⟨zgW,trivial⟩) (sg:=⟨[.pure],[]⟩) (A:=zcR) (res:=zcI) (W:=fun x=>zcQ x.1 x.2.1) (z:=default)
def zxu:Cx ty:=mkCx base 8 [(79,zcc),(161,zcF)] [] [] [] [] []
def zrn (a:List Value) (b:List Value):Wy0 (Int):=.bn (zbO a b) fun r0=>.k r0
def zoe (a:List Value) (b:List Value):Bool×Int:=(zrn a b).fin default
def zpP (r:Int):ARes ty:=⟨[.pure (.lit (.int .i64 r))],[]⟩
def zrz:AL base (List Value×List Value×Unit):=zf (zg (vSl 40)) (zf (zg (vSl 40)) aNil)
def zo6:Ab.Spec ty:=zn zrz fun x=>((zoe x.1 x.2.1).1,zpP (zoe x.1 x.2.1).2)
theorem zuT:Sound Tryz.prog base 114 zo6:=
 zy (cx':=zxu) zG zr zC (zA ⟨zcl,zgu,trivial⟩) Tryz.call114 Tryz.func114 (c:=body Tryz.f114) (by kernel_rfl) (zi (l:=[]) (by kernel_rfl) trivial) (sg:=⟨[.pure],[]⟩) (A:=zrz) (res:=zpP) (W:=fun x=>zrn x.1 x.2.1) (z:=default)
def zyH:Cx ty:=mkCx base 10 [(114,zo6)] [] [] [] [] []
def zsD (x_:Row) (y_:Row):Wy0 (Int):=.bn (zoe x_.Values y_.Values) fun r0=>.k r0
def zbz (x_:Row) (y_:Row):Bool×Int:=(zsD x_ y_).fin default
def zqN (r:Int):ARes ty:=⟨[.pure (.lit (.int .i64 r))],[]⟩
def zsq:AL base (Row×Row×Unit):=zf (zg (vAgg 38)) (zf (zg (vAgg 38)) aNil)
def zk3:Ab.Spec ty:=zn zsq fun x=>((zbz x.1 x.2.1).1,zqN (zbz x.1 x.2.1).2)
theorem zoX:Sound Tryz.prog base 74 zk3:=
 zy (cx':=zyH) zG zr zC (zA ⟨zuT,trivial⟩) Tryz.call74 Tryz.func74 (c:=body Tryz.f74) (by kernel_rfl) (zi (l:=[]) (by kernel_rfl) trivial) (sg:=⟨[.pure],[]⟩) (A:=zsq) (res:=zqN) (W:=fun x=>zsD x.1 x.2.1) (z:=default)
def ztB (r:List Term×Int):ARes ty:=⟨[.own 152 r.1,.pure (.lit (.int .i64 r.2))],[]⟩
def zuU:AL base (List Term×List Binding×Unit):=zf (zg (vSl 152)) (zf (zg (vSl 210)) aNil)
def zu0 (F:List Term→List Binding→Bool×(List Term×Int)):Ab.Spec ty:=zn zuU fun x=>((F x.1 x.2.1).1,ztB (F x.1 x.2.1).2)
def zpo:List Term→List Binding→Bool×(List Term×Int):=fun a _=>(decide (a.length=a.length+1),default)
def annotation_Substitute_spec:Ab.Spec ty:=zu0 zpo
theorem zsm:Sound Tryz.prog base 115 annotation_Substitute_spec:=zbi Tryz.call115 (fun _=>decide_eq_false (Nat.ne_of_lt (Nat.lt_succ_self _)))
def zc7:Cx ty:={ base with nt:=8 }
def zgx (s:List Value):Bool×List Value:=(decide (s.length*32≤zdv),s)
def zhP:Ab.Spec ty:=zn (cx:=base) (zf (zg (vSl 40)) aNil) fun x=>((zgx x.1).1,⟨[.own 40 (zgx x.1).2],[]⟩)
theorem zm6:zgM zc7 Tryz.f51 (body Tryz.f51) ⟨[.own 40],[]⟩ [.pure (.lit (.slice none 0 0))]=some ⟨[.own 40 []],[]⟩:=by kernel_rfl
theorem zmj (p:Addr) (c:Nat):zgM zc7 Tryz.f51 (body Tryz.f51) ⟨[.own 40],[]⟩ [.pure (.lit (.slice (some p) 0 c))]=some ⟨[.own 40 []],[]⟩:=by kernel_rfl
theorem zmw (l:List Value):zgM zc7 Tryz.f51 (body Tryz.f51) ⟨[.own 40],[]⟩ [.pure (.sl 40 l)]=bif !l.isEmpty then bif decide ((([]:List (ty 40)).length+l.length)*32≤zdv) then some ⟨[.own 40 l],[]⟩ else none else none:=by kernel_rfl
theorem zmk:Sound Tryz.prog base 51 zhP:=
 zwb (cx':=zc7) (bytes:=32) zG zr ⟨⟨rfl,rfl,rfl,rfl,rfl,rfl⟩,rfl⟩ (fun g s h=>by cases h) Tryz.call51 Tryz.func51 (c:=body Tryz.f51) (by kernel_rfl) (zi (l:=[]) (by kernel_rfl) trivial) zm6 zmj zmw (by kernel_rfl)
def zzc:Cx ty:=mkCx base 17 [(51,zhP),(115,annotation_Substitute_spec)] [] [] [] [] []
def ztq (x_:Row) (a:List Term):Wy0 (Row):=.bn (zpo a []) fun r1=>.bn (zgx x_.Values) fun r0=>.k (⟨r0,r1.1⟩:Row)
def zm1 (x_:Row) (a:List Term):Bool×Row:=(ztq x_ a).fin default
def zrw (r:Row):ARes ty:=⟨[.pure (.agg (base.enc 38 r))],[]⟩
def ztu:AL base (Row×List Term×Unit):=zf (zg (vAgg 38)) (zf (zg (vSl 152)) aNil)
def zqq:Ab.Spec ty:=zn ztu fun x=>((zm1 x.1 x.2.1).1,zrw (zm1 x.1 x.2.1).2)
theorem zwk:Sound Tryz.prog base 76 zqq:=
 zy (cx':=zzc) zG zr zC (zA ⟨zmk,zsm,trivial⟩) Tryz.call76 Tryz.func76 (c:=body Tryz.f76) (by kernel_rfl) (zi (l:=[]) (by kernel_rfl) trivial) (sg:=⟨[.pure],[]⟩) (A:=ztu) (res:=zrw) (W:=fun x=>ztq x.1 x.2.1) (z:=default)
def zyD:Cx ty:=mkCx base 16 [(83,zgY)] [] [] [] [] []
def zsl (p:pair):Wy0 (Bool):=.bn (zgJ p.v) fun r0=>.i (!r0) (.k true) (.k (p.v.Kind != p.c.Type_))
def zpl (p:pair):Bool×Bool:=(zsl p).fin default
def zqZ (r:Bool):ARes ty:=⟨[.pure (.lit (.bool r))],[]⟩
def zsP:AL base (pair×Unit):=zf (zg (vAgg 147)) aNil
def ziD:Ab.Spec ty:=zn zsP fun x=>((zpl x.1).1,zqZ (zpl x.1).2)
theorem zks:Sound Tryz.prog base 106 ziD:=
 zy (cx':=zyD) zG zr zC (zA ⟨zht,trivial⟩) Tryz.call106 Tryz.func106 (c:=body Tryz.f106) (by kernel_rfl) (zi (l:=[]) (by kernel_rfl) trivial) (sg:=⟨[.pure],[]⟩) (A:=zsP) (res:=zqZ) (W:=fun x=>zsl x.1) (z:=default)
abbrev ttTrelationzip0:=List Column×Unit×List Value×Int×Int×Unit
abbrev ttTrelationzip1:=List pair×Unit
def zBP (l:List Column) (t8:List Value) (t9:Int) (t10:Int) (out_:List pair):Wy ttTrelationzip0 ttTrelationzip1 (List pair):=.i (decide (t10<t9)) (.i (decide (0≤t10)&&decide (t10<Int.ofNat t8.length)) (.i (decide (0≤t10)&&decide (t10<Int.ofNat l.length)) (.i (decide ((out_.length+[pair.mk (l.getD t10.toNat default) (t8.getD t10.toNat default)].length)*56≤zdv)) (.h (l,(),t8,t9,(IntKind.i64.wrap (t10+1)),()) ((out_++[pair.mk (l.getD t10.toNat default) (t8.getD t10.toNat default)]),())) .d) .d) .d) (.k out_)
def zrb (x:ttTrelationzip0) (y:ttTrelationzip1):Wy ttTrelationzip0 ttTrelationzip1 (List pair):=zBP x.1 x.2.2.1 x.2.2.2.1 x.2.2.2.2.1 y.1
def zBg (n:Nat) (l:List Column) (t8:List Value) (t9:Int) (t10:Int) (out_:List pair):Bool×List pair:=zba (zrb) default n (l,(),t8,t9,t10,()) (out_,())
def zt3 (r:List pair):LTree ty:=.done (.exit 0) [.own 104] [.arr 147 r false]
def zvk:LL ty ttTrelationzip0:=za (lSl 67) (za (lOwn 104) (za (lSl 40) (za (lInt .i64) (za (lInt .i64) zF))))
def zvd:BL ty ttTrelationzip1:=bArr 147 false (bNil)
def zur (x:ttTrelationzip0) (y:ttTrelationzip1):Nat:=(x.1.length+x.2.2.1.length+Int.toNat x.2.2.2.1+Int.toNat x.2.2.2.2.1+y.1.length+1000)
def zvK:Cx ty:=mkCx base 26 [] [] [(3,[(0,.keep),(5,.own 147),(8,.keep),(9,.keep),(10,.keep)])] [(3,1,[(5,.keep)])] [(3,spW zvk zvd (zrb) default zt3 zur)] []
theorem zAB:z8 zvK (lp (body Tryz.f105) 0):=zQ (id:=3) (V:=zvk) (B:=zvd) (W:=zrb) (z:=default) (tr:=zt3) (m:=zur)
def zwT (l:List Column) (row:List Value):Wy0 (List pair):=.bn (zBg (l.length+row.length+(Int.ofNat row.length).toNat +Int.toNat 0+0+1000) l row (Int.ofNat row.length) 0 []) fun r0=>.k r0
def zuK (l:List Column) (row:List Value):Bool×List pair:=(zwT l row).fin default
def zud (r:List pair):ARes ty:=⟨[.own 147 r],[]⟩
def zwn:AL base (List Column×List Value×Unit):=zf (zg (vSl 67)) (zf (zg (vSl 40)) aNil)
def zty:Ab.Spec ty:=zn zwn fun x=>((zuK x.1 x.2.1).1,zud (zuK x.1 x.2.1).2)
theorem zy9:Sound Tryz.prog base 105 zty:=
 zy (cx':=zvK) zG zr zC (zA trivial) Tryz.call105 Tryz.func105 (c:=body Tryz.f105) (by kernel_rfl) (zi (l:=[lp (body Tryz.f105) 0]) (by kernel_rfl) ⟨zAB,trivial⟩) (sg:=⟨[.own 147],[]⟩) (A:=zwn) (res:=zud) (W:=fun x=>zwT x.1 x.2.1) (z:=default)
abbrev ttTslicesIndexFuncLrelationpairrelationpairfi0:=List pair×Unit×Int×Int×Unit
def ziY (s:List pair) (t7:Int) (t8:Int):Wy ttTslicesIndexFuncLrelationpairrelationpairfi0 (Unit) (Int⊕Unit):=.i (decide (t8<t7)) (.i (decide (0≤t8)&&decide (t8<Int.ofNat s.length)) (.bn (zpl (s.getD t8.toNat default)) fun r0=>.i (r0) (.k (.inl t8)) (.h (s,(),t7,(IntKind.i64.wrap (t8+1)),()) ())) .d) (.k (.inr ()))
def zcu (x:ttTslicesIndexFuncLrelationpairrelationpairfi0) (y:Unit):Wy ttTslicesIndexFuncLrelationpairrelationpairfi0 (Unit) (Int⊕Unit):=ziY x.1 x.2.2.1 x.2.2.2.1
def ziV (n:Nat) (s:List pair) (t7:Int) (t8:Int):Bool×(Int⊕Unit):=zba (zcu) (.inl default) n (s,(),t7,t8,()) ()
def zeh (r:Int⊕Unit):LTree ty:=.ite (isL r) (.done .ret [.lit (.int .i64 (getL r))] []) (.done (.exit 0) [] [])
def zeu:LL ty ttTslicesIndexFuncLrelationpairrelationpairfi0:=za (lSl 147) (za (lFn 106 (zF)) (za (lInt .i64) (za (lInt .i64) zF)))
def zex:BL ty (Unit):=bNil
def zei (x:ttTslicesIndexFuncLrelationpairrelationpairfi0) (y:Unit):Nat:=(x.1.length+Int.toNat x.2.2.1+Int.toNat x.2.2.2.1+1000)
def zeA:Cx ty:=mkCx base 19 [(106,ziD)] [] [(2,[(0,.keep),(1,.keep),(7,.keep),(8,.keep)])] [(2,1,[]),(2,0,[(4,.keep)])] [(2,spW zeu zex (zcu) (.inl default) zeh zei)] []
theorem ziG:z8 zeA (lp (body Tryz.f135) 0):=zQ (id:=2) (V:=zeu) (B:=zex) (W:=zcu) (z:=.inl default) (tr:=zeh) (m:=zei)
def zeH (s:List pair):Wy0 (Int):=.bn (ziV (s.length+(Int.ofNat s.length).toNat +Int.toNat 0+1000) s (Int.ofNat s.length) 0) fun r2=>.i (isL r2) (.k (getL r2)) (.k (-1:Int))
def zcH (s:List pair):Bool×Int:=(zeH s).fin default
def zee (r:Int):ARes ty:=⟨[.pure (.lit (.int .i64 r))],[]⟩
def zeP:AL base (List pair×Unit×Unit):=zf (zg (vSl 147)) (zf (zg (vFn 106 vNil)) aNil)
def zd9:Ab.Spec ty:=zn zeP fun x=>((zcH x.1).1,zee (zcH x.1).2)
theorem zim:Sound Tryz.prog base 135 zd9:=
 zy (cx':=zeA) zG zr zC (zA ⟨zks,trivial⟩) Tryz.call135 Tryz.func135 (c:=body Tryz.f135) (by kernel_rfl) (zi (l:=[lp (body Tryz.f135) 0]) (by kernel_rfl) ⟨ziG,trivial⟩) (sg:=⟨[.pure],[]⟩) (A:=zeP) (res:=zee) (W:=fun x=>zeH x.1) (z:=default)
def zit:Cx ty:=mkCx base 9 [(106,ziD),(135,zd9)] [] [] [] [] []
def zeb (s:List pair):Wy0 (Bool):=.bn (zcH s) fun r0=>.k (decide (r0≥0))
def zcv (s:List pair):Bool×Bool:=(zeb s).fin default
def zdQ (r:Bool):ARes ty:=⟨[.pure (.lit (.bool r))],[]⟩
def zed:AL base (List pair×Unit×Unit):=zf (zg (vSl 147)) (zf (zg (vFn 106 vNil)) aNil)
def zdA:Ab.Spec ty:=zn zed fun x=>((zcv x.1).1,zdQ (zcv x.1).2)
theorem zhU:Sound Tryz.prog base 104 zdA:=
 zy (cx':=zit) zG zr zC (zA ⟨zks,zim,trivial⟩) Tryz.call104 Tryz.func104 (c:=body Tryz.f104) (by kernel_rfl) (zi (l:=[]) (by kernel_rfl) trivial) (sg:=⟨[.pure],[]⟩) (A:=zed) (res:=zdQ) (W:=fun x=>zeb x.1) (z:=default)
def zAN:Cx ty:=mkCx base 17 [(104,zdA),(105,zty),(106,ziD)] [] [] [] [] []
def zvA (l:List Column) (row:List Value):Wy0 (Bool):=.i (Int.ofNat l.length==Int.ofNat row.length) (.bn (zuK l row) fun r1=>.bn (zcv r1) fun r0=>.k (!r0)) (.k false)
def zs1 (l:List Column) (row:List Value):Bool×Bool:=(zvA l row).fin default
def ztn (r:Bool):ARes ty:=⟨[.pure (.lit (.bool r))],[]⟩
def zvE:AL base (List Column×List Value×Unit):=zf (zg (vSl 67)) (zf (zg (vSl 40)) aNil)
def zss:Ab.Spec ty:=zn zvE fun x=>((zs1 x.1 x.2.1).1,ztn (zs1 x.1 x.2.1).2)
theorem zyJ:Sound Tryz.prog base 68 zss:=
 zy (cx':=zAN) zG zr zC (zA ⟨zhU,zy9,zks,trivial⟩) Tryz.call68 Tryz.func68 (c:=body Tryz.f68) (by kernel_rfl) (zi (l:=[]) (by kernel_rfl) trivial) (sg:=⟨[.pure],[]⟩) (A:=zvE) (res:=ztn) (W:=fun x=>zvA x.1 x.2.1) (z:=default)
def zCe:Cx ty:=mkCx base 2 [] [] [] [] [] []
def zyt:Wy0 (List ByteArray):=.k [ByteArray.mk #[(73:UInt8),(78:UInt8),(84:UInt8),(69:UInt8),(71:UInt8),(69:UInt8),(82:UInt8)],ByteArray.mk #[(84:UInt8),(69:UInt8),(88:UInt8),(84:UInt8)],ByteArray.mk #[(66:UInt8),(79:UInt8),(79:UInt8),(76:UInt8),(69:UInt8),(65:UInt8),(78:UInt8)]]
def zsa:Bool×List ByteArray:=(zyt).fin default
def zvm (r:List ByteArray):ARes ty:=⟨[.own 9 r],[]⟩
def zyz:AL base (Unit):=aNil
def zt8:Ab.Spec ty:=zn zyz fun x=>((zsa ).1,zvm (zsa ).2)
theorem zz3:Sound Tryz.prog base 134 zt8:=
 zy (cx':=zCe) zG zr zC (zA trivial) Tryz.call134 Tryz.func134 (c:=body Tryz.f134) (by kernel_rfl) (zi (l:=[]) (by kernel_rfl) trivial) (sg:=⟨[.own 9],[]⟩) (A:=zyz) (res:=zvm) (W:=fun x=>zyt ) (z:=default)
def zzY:Cx ty:=mkCx base 13 [(134,zt8)] [] [] [] [] []
def zt6 (kind:Int):Wy0 (ByteArray):=.i (decide (kind<0)) (.k (ByteArray.mk #[])) (.i (decide (kind>2)) (.k (ByteArray.mk #[])) (.i (decide (0≤kind)&&decide (kind<Int.ofNat zsa.2.length)) (.k (zsa.2.getD kind.toNat default)) .d))
def zr1 (kind:Int):Bool×ByteArray:=(zt6 kind).fin default
def zsh (r:ByteArray):ARes ty:=⟨[.pure (.lit (.string r))],[]⟩
def zuO:AL base (Int×Unit):=zf (zg (vInt .i64)) aNil
def zrB:Ab.Spec ty:=zn zuO fun x=>((zr1 x.1).1,zsh (zr1 x.1).2)
theorem zxr:Sound Tryz.prog base 103 zrB:=
 zy (cx':=zzY) zG zr zC (zA ⟨zz3,trivial⟩) Tryz.call103 Tryz.func103 (c:=body Tryz.f103) (by kernel_rfl) (zi (l:=[]) (by kernel_rfl) trivial) (sg:=⟨[.pure],[]⟩) (A:=zuO) (res:=zsh) (W:=fun x=>zt6 x.1) (z:=default)
def zsR:Cx ty:=mkCx base 7 [(103,zrB)] [] [] [] [] []
def zmm (c:Column):Wy0 (Bool):=.bn (zr1 c.Type_) fun r0=>.k (r0.toList==(ByteArray.mk #[]).toList)
def zjy (c:Column):Bool×Bool:=(zmm c).fin default
def zk9 (r:Bool):ARes ty:=⟨[.pure (.lit (.bool r))],[]⟩
def zme:AL base (Column×Unit):=zf (zg (vAgg 67)) aNil
def ze8:Ab.Spec ty:=zn zme fun x=>((zjy x.1).1,zk9 (zjy x.1).2)
theorem zhf:Sound Tryz.prog base 102 ze8:=
 zy (cx':=zsR) zG zr zC (zA ⟨zxr,trivial⟩) Tryz.call102 Tryz.func102 (c:=body Tryz.f102) (by kernel_rfl) (zi (l:=[]) (by kernel_rfl) trivial) (sg:=⟨[.pure],[]⟩) (A:=zme) (res:=zk9) (W:=fun x=>zmm x.1) (z:=default)
abbrev ttTslicesIndexFuncLapiColumnapiColumnvc0:=List Column×Unit×Int×Int×Unit
def zj4 (s:List Column) (t7:Int) (t8:Int):Wy ttTslicesIndexFuncLapiColumnapiColumnvc0 (Unit) (Int⊕Unit):=.i (decide (t8<t7)) (.i (decide (0≤t8)&&decide (t8<Int.ofNat s.length)) (.bn (zjy (s.getD t8.toNat default)) fun r0=>.i (r0) (.k (.inl t8)) (.h (s,(),t7,(IntKind.i64.wrap (t8+1)),()) ())) .d) (.k (.inr ()))
def zc8 (x:ttTslicesIndexFuncLapiColumnapiColumnvc0) (y:Unit):Wy ttTslicesIndexFuncLapiColumnapiColumnvc0 (Unit) (Int⊕Unit):=zj4 x.1 x.2.2.1 x.2.2.2.1
def zkg (n:Nat) (s:List Column) (t7:Int) (t8:Int):Bool×(Int⊕Unit):=zba (zc8) (.inl default) n (s,(),t7,t8,()) ()
def zfU (r:Int⊕Unit):LTree ty:=.ite (isL r) (.done .ret [.lit (.int .i64 (getL r))] []) (.done (.exit 0) [] [])
def zgm:LL ty ttTslicesIndexFuncLapiColumnapiColumnvc0:=za (lSl 67) (za (lFn 102 (zF)) (za (lInt .i64) (za (lInt .i64) zF)))
def zgs:BL ty (Unit):=bNil
def zfV (x:ttTslicesIndexFuncLapiColumnapiColumnvc0) (y:Unit):Nat:=(x.1.length+Int.toNat x.2.2.1+Int.toNat x.2.2.2.1+1000)
def zgf:Cx ty:=mkCx base 19 [(102,ze8)] [] [(2,[(0,.keep),(1,.keep),(7,.keep),(8,.keep)])] [(2,1,[]),(2,0,[(4,.keep)])] [(2,spW zgm zgs (zc8) (.inl default) zfU zfV)] []
theorem zjV:z8 zgf (lp (body Tryz.f133) 0):=zQ (id:=2) (V:=zgm) (B:=zgs) (W:=zc8) (z:=.inl default) (tr:=zfU) (m:=zfV)
def zgB (s:List Column):Wy0 (Int):=.bn (zkg (s.length+(Int.ofNat s.length).toNat +Int.toNat 0+1000) s (Int.ofNat s.length) 0) fun r2=>.i (isL r2) (.k (getL r2)) (.k (-1:Int))
def zdC (s:List Column):Bool×Int:=(zgB s).fin default
def zf0 (r:Int):ARes ty:=⟨[.pure (.lit (.int .i64 r))],[]⟩
def zgD:AL base (List Column×Unit×Unit):=zf (zg (vSl 67)) (zf (zg (vFn 102 vNil)) aNil)
def zfD:Ab.Spec ty:=zn zgD fun x=>((zdC x.1).1,zf0 (zdC x.1).2)
theorem zjH:Sound Tryz.prog base 133 zfD:=
 zy (cx':=zgf) zG zr zC (zA ⟨zhf,trivial⟩) Tryz.call133 Tryz.func133 (c:=body Tryz.f133) (by kernel_rfl) (zi (l:=[lp (body Tryz.f133) 0]) (by kernel_rfl) ⟨zjV,trivial⟩) (sg:=⟨[.pure],[]⟩) (A:=zgD) (res:=zf0) (W:=fun x=>zgB x.1) (z:=default)
def zjC:Cx ty:=mkCx base 9 [(102,ze8),(133,zfD)] [] [] [] [] []
def zfK (s:List Column):Wy0 (Bool):=.bn (zdC s) fun r0=>.k (decide (r0≥0))
def zc2 (s:List Column):Bool×Bool:=(zfK s).fin default
def ze6 (r:Bool):ARes ty:=⟨[.pure (.lit (.bool r))],[]⟩
def zfF:AL base (List Column×Unit×Unit):=zf (zg (vSl 67)) (zf (zg (vFn 102 vNil)) aNil)
def zeM:Ab.Spec ty:=zn zfF fun x=>((zc2 x.1).1,ze6 (zc2 x.1).2)
theorem ziZ:Sound Tryz.prog base 101 zeM:=
 zy (cx':=zjC) zG zr zC (zA ⟨zhf,zjH,trivial⟩) Tryz.call101 Tryz.func101 (c:=body Tryz.f101) (by kernel_rfl) (zi (l:=[]) (by kernel_rfl) trivial) (sg:=⟨[.pure],[]⟩) (A:=zfF) (res:=ze6) (W:=fun x=>zfK x.1) (z:=default)
def zue:Cx ty:=mkCx base 11 [(101,zeM),(102,ze8)] [] [] [] [] []
def zn9 (l:List Column):Wy0 (Bool):=.i (decide (Int.ofNat l.length≤16)) (.bn (zc2 l) fun r0=>.k (!r0)) (.k false)
def zk8 (l:List Column):Bool×Bool:=(zn9 l).fin default
def zmU (r:Bool):ARes ty:=⟨[.pure (.lit (.bool r))],[]⟩
def znY:AL base (List Column×Unit):=zf (zg (vSl 67)) aNil
def zl8:Ab.Spec ty:=zn znY fun x=>((zk8 x.1).1,zmU (zk8 x.1).2)
theorem zsk:Sound Tryz.prog base 67 zl8:=
 zy (cx':=zue) zG zr zC (zA ⟨ziZ,zhf,trivial⟩) Tryz.call67 Tryz.func67 (c:=body Tryz.f67) (by kernel_rfl) (zi (l:=[]) (by kernel_rfl) trivial) (sg:=⟨[.pure],[]⟩) (A:=znY) (res:=zmU) (W:=fun x=>zn9 x.1) (z:=default)
def zcK:Cx ty:={ base with nt:=8 }
def zfS (s:List Column):Bool×List Column:=(decide (s.length*24≤zdv),s)
def zhh:Ab.Spec ty:=zn (cx:=base) (zf (zg (vSl 67)) aNil) fun x=>((zfS x.1).1,⟨[.own 67 (zfS x.1).2],[]⟩)
theorem zmh:zgM zcK Tryz.f75 (body Tryz.f75) ⟨[.own 67],[]⟩ [.pure (.lit (.slice none 0 0))]=some ⟨[.own 67 []],[]⟩:=by kernel_rfl
theorem zln (p:Addr) (c:Nat):zgM zcK Tryz.f75 (body Tryz.f75) ⟨[.own 67],[]⟩ [.pure (.lit (.slice (some p) 0 c))]=some ⟨[.own 67 []],[]⟩:=by kernel_rfl
theorem zl4 (l:List Column):zgM zcK Tryz.f75 (body Tryz.f75) ⟨[.own 67],[]⟩ [.pure (.sl 67 l)]=bif !l.isEmpty then bif decide ((([]:List (ty 67)).length+l.length)*24≤zdv) then some ⟨[.own 67 l],[]⟩ else none else none:=by kernel_rfl
theorem zlo:Sound Tryz.prog base 75 zhh:=
 zwb (cx':=zcK) (bytes:=24) zG zr ⟨⟨rfl,rfl,rfl,rfl,rfl,rfl⟩,rfl⟩ (fun g s h=>by cases h) Tryz.call75 Tryz.func75 (c:=body Tryz.f75) (by kernel_rfl) (zi (l:=[]) (by kernel_rfl) trivial) zmh zln zl4 (by kernel_rfl)
def zd6:Cx ty:={ base with nt:=8 }
def zhG (s:List Row):Bool×List Row:=(decide (s.length*48≤zdv),s)
def ziX:Ab.Spec ty:=zn (cx:=base) (zf (zg (vSl 38)) aNil) fun x=>((zhG x.1).1,⟨[.own 38 (zhG x.1).2],[]⟩)
theorem zoE:zgM zd6 Tryz.f71 (body Tryz.f71) ⟨[.own 38],[]⟩ [.pure (.lit (.slice none 0 0))]=some ⟨[.own 38 []],[]⟩:=by kernel_rfl
theorem znH (p:Addr) (c:Nat):zgM zd6 Tryz.f71 (body Tryz.f71) ⟨[.own 38],[]⟩ [.pure (.lit (.slice (some p) 0 c))]=some ⟨[.own 38 []],[]⟩:=by kernel_rfl
theorem zon (l:List Row):zgM zd6 Tryz.f71 (body Tryz.f71) ⟨[.own 38],[]⟩ [.pure (.sl 38 l)]=bif !l.isEmpty then bif decide ((([]:List (ty 38)).length+l.length)*48≤zdv) then some ⟨[.own 38 l],[]⟩ else none else none:=by kernel_rfl
theorem znB:Sound Tryz.prog base 71 ziX:=
 zwb (cx':=zd6) (bytes:=48) zG zr ⟨⟨rfl,rfl,rfl,rfl,rfl,rfl⟩,rfl⟩ (fun g s h=>by cases h) Tryz.call71 Tryz.func71 (c:=body Tryz.f71) (by kernel_rfl) (zi (l:=[]) (by kernel_rfl) trivial) zoE znH zon (by kernel_rfl)
end Go.Proofs.YtddkaehkimnklaaGreatDoor
end
