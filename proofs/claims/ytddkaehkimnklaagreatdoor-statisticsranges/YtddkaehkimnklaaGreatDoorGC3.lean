/- Texts of this claim, joined (the program, its functions in plain words, and what they compute). -/
import Derived.Test.YtddkaehkimnklaaGreatDoorGC1
import Derived.Test.YtddkaehkimnklaaGreatDoorGA3
import Derived.Test.YtddkaehkimnklaaGreatDoorGC2
set_option autoImplicit false
set_option linter.unusedVariables false
set_option linter.unusedSectionVars false
set_option linter.unusedSimpArgs false
set_option maxRecDepth 1000000
set_option maxHeartbeats 0
noncomputable section
namespace Go.Proofs.YtddkaehkimnklaaGreatDoor
open Go Go.Ab
abbrev ttTannotationValid0:=List Term×Unit×List Term×Int×Int×List Factor×Int×Int×Unit
abbrev ttTannotationValid1:=Bool⊕(List Term×List Term×Int×Int)
abbrev ttTannotationValid2:=List Term×List Term×Int×Int×Unit
def zxN (zq:Atom→Bool×Bool) (a:List Term) (t10:List Term) (t11:Int) (t12:Int) (t40:List Factor) (t41:Int) (t42:Int) (t:Term):Wy ttTannotationValid0 (Term×Unit) ttTannotationValid1:=.i (decide (t42<t41)) (.i (decide (0≤t42)&&decide (t42<Int.ofNat t40.length)) (.i (decide ((t40.getD t42.toNat default).Exp<1)) (.k (.inl false)) (.bn (zim (Atom.mk (t40.getD t42.toNat default).Atom.Kind (t40.getD t42.toNat default).Atom.Row (t40.getD t42.toNat default).Atom.Args (t40.getD t42.toNat default).Atom.Func (t40.getD t42.toNat default).Atom.Items (t40.getD t42.toNat default).Atom.Op (t40.getD t42.toNat default).Atom.Bound)) fun r6=>.i (r6) (.i ((t40.getD t42.toNat default).Exp != 1) (.k (.inl false)) (.i (decide (t42>0)) (.i (decide (0≤IntKind.i64.wrap (t42 - 1))&&decide (IntKind.i64.wrap (t42 - 1)<Int.ofNat t.Factors.length)) (.bn (zjO (Atom.mk (t.Factors.getD (IntKind.i64.wrap (t42 - 1)).toNat default).Atom.Kind (t.Factors.getD (IntKind.i64.wrap (t42 - 1)).toNat default).Atom.Row (t.Factors.getD (IntKind.i64.wrap (t42 - 1)).toNat default).Atom.Args (t.Factors.getD (IntKind.i64.wrap (t42 - 1)).toNat default).Atom.Func (t.Factors.getD (IntKind.i64.wrap (t42 - 1)).toNat default).Atom.Items (t.Factors.getD (IntKind.i64.wrap (t42 - 1)).toNat default).Atom.Op (t.Factors.getD (IntKind.i64.wrap (t42 - 1)).toNat default).Atom.Bound) (Atom.mk (t40.getD t42.toNat default).Atom.Kind (t40.getD t42.toNat default).Atom.Row (t40.getD t42.toNat default).Atom.Args (t40.getD t42.toNat default).Atom.Func (t40.getD t42.toNat default).Atom.Items (t40.getD t42.toNat default).Atom.Op (t40.getD t42.toNat default).Atom.Bound)) fun r1=>.i (decide (r1≥0)) (.k (.inl false)) (.bn (zq (Atom.mk (t40.getD t42.toNat default).Atom.Kind (t40.getD t42.toNat default).Atom.Row (t40.getD t42.toNat default).Atom.Args (t40.getD t42.toNat default).Atom.Func (t40.getD t42.toNat default).Atom.Items (t40.getD t42.toNat default).Atom.Op (t40.getD t42.toNat default).Atom.Bound)) fun r0=>.i (!r0) (.k (.inl false)) (.h (a,(),t10,t11,t12,t40,t41,(IntKind.i64.wrap (t42+1)),()) (t,())))) .d) (.bn (zq (Atom.mk (t40.getD t42.toNat default).Atom.Kind (t40.getD t42.toNat default).Atom.Row (t40.getD t42.toNat default).Atom.Args (t40.getD t42.toNat default).Atom.Func (t40.getD t42.toNat default).Atom.Items (t40.getD t42.toNat default).Atom.Op (t40.getD t42.toNat default).Atom.Bound)) fun r2=>.i (!r2) (.k (.inl false)) (.h (a,(),t10,t11,t12,t40,t41,(IntKind.i64.wrap (t42+1)),()) (t,()))))) (.i (decide (t42>0)) (.i (decide (0≤IntKind.i64.wrap (t42 - 1))&&decide (IntKind.i64.wrap (t42 - 1)<Int.ofNat t.Factors.length)) (.bn (zjO (Atom.mk (t.Factors.getD (IntKind.i64.wrap (t42 - 1)).toNat default).Atom.Kind (t.Factors.getD (IntKind.i64.wrap (t42 - 1)).toNat default).Atom.Row (t.Factors.getD (IntKind.i64.wrap (t42 - 1)).toNat default).Atom.Args (t.Factors.getD (IntKind.i64.wrap (t42 - 1)).toNat default).Atom.Func (t.Factors.getD (IntKind.i64.wrap (t42 - 1)).toNat default).Atom.Items (t.Factors.getD (IntKind.i64.wrap (t42 - 1)).toNat default).Atom.Op (t.Factors.getD (IntKind.i64.wrap (t42 - 1)).toNat default).Atom.Bound) (Atom.mk (t40.getD t42.toNat default).Atom.Kind (t40.getD t42.toNat default).Atom.Row (t40.getD t42.toNat default).Atom.Args (t40.getD t42.toNat default).Atom.Func (t40.getD t42.toNat default).Atom.Items (t40.getD t42.toNat default).Atom.Op (t40.getD t42.toNat default).Atom.Bound)) fun r4=>.i (decide (r4≥0)) (.k (.inl false)) (.bn (zq (Atom.mk (t40.getD t42.toNat default).Atom.Kind (t40.getD t42.toNat default).Atom.Row (t40.getD t42.toNat default).Atom.Args (t40.getD t42.toNat default).Atom.Func (t40.getD t42.toNat default).Atom.Items (t40.getD t42.toNat default).Atom.Op (t40.getD t42.toNat default).Atom.Bound)) fun r3=>.i (!r3) (.k (.inl false)) (.h (a,(),t10,t11,t12,t40,t41,(IntKind.i64.wrap (t42+1)),()) (t,())))) .d) (.bn (zq (Atom.mk (t40.getD t42.toNat default).Atom.Kind (t40.getD t42.toNat default).Atom.Row (t40.getD t42.toNat default).Atom.Args (t40.getD t42.toNat default).Atom.Func (t40.getD t42.toNat default).Atom.Items (t40.getD t42.toNat default).Atom.Op (t40.getD t42.toNat default).Atom.Bound)) fun r5=>.i (!r5) (.k (.inl false)) (.h (a,(),t10,t11,t12,t40,t41,(IntKind.i64.wrap (t42+1)),()) (t,())))))) .d) (.k (.inr (a,t10,t11,t12)))
def zkF (zq:Atom→Bool×Bool) (x:ttTannotationValid0) (y:Term×Unit):Wy ttTannotationValid0 (Term×Unit) ttTannotationValid1:=zxN zq x.1 x.2.2.1 x.2.2.2.1 x.2.2.2.2.1 x.2.2.2.2.2.1 x.2.2.2.2.2.2.1 x.2.2.2.2.2.2.2.1 y.1
def zpN (zq:Atom→Bool×Bool) (n:Nat) (a:List Term) (t10:List Term) (t11:Int) (t12:Int) (t40:List Factor) (t41:Int) (t42:Int) (t:Term):Bool×ttTannotationValid1:=zY (zkF zq) (.inl default) n (a,(),t10,t11,t12,t40,t41,t42,()) (t,())
def zo7 (r:ttTannotationValid1):LTree ty:=.ite (isL r) (.done .ret [.lit (.bool (getL r))] []) (.done (.exit 2) [.sl 152 (getR r).1,.sl 152 (getR r).2.1,.lit (.int .i64 (getR r).2.2.1),.lit (.int .i64 (getR r).2.2.2)] [])
def zpw:LL ty ttTannotationValid0:=za (lSl 152) (za (zc8 340 0) (za (lSl 152) (za (lInt .i64) (za (lInt .i64) (za (lSl 160) (za (lInt .i64) (za (lInt .i64) zG)))))))
def zp1:BL ty (Term×Unit):=bBox (zgF (fun x=>(⟨x.1,x.2.1⟩:Term)) (fun x=>(x.Coeff,x.Factors,())) (fun _=>rfl) (za (lInt .i64) (za (lSl 160) zG))) false (bNil)
def zxd (zq:Atom→Bool×Bool) (a:List Term) (t10:List Term) (t11:Int) (t12:Int):Wy ttTannotationValid2 (Unit) (Bool⊕Unit):=.i (decide (t12<t11)) (.i (decide (0≤t12)&&decide (t12<Int.ofNat t10.length)) (.i (decide ((t10.getD t12.toNat default).Coeff<1)) (.k (.inl false)) (.i (decide ((t10.getD t12.toNat default).Coeff>1152921504606846976)) (.k (.inl false)) (.i (decide (t12>0)) (.i (decide (0≤IntKind.i64.wrap (t12 - 1))&&decide (IntKind.i64.wrap (t12 - 1)<Int.ofNat a.length)) (.bn (znV (a.getD (IntKind.i64.wrap (t12 - 1)).toNat default) (t10.getD t12.toNat default)) fun r15=>.i (decide (r15≥0)) (.k (.inl false)) (.bn (zpN zq (a.length+t10.length+t11.toNat +t12.toNat +(t10.getD t12.toNat default).Factors.length+(Int.ofNat (t10.getD t12.toNat default).Factors.length).toNat +Int.toNat 0+(t10.getD t12.toNat default).Factors.length+1000) a t10 t11 t12 (t10.getD t12.toNat default).Factors (Int.ofNat (t10.getD t12.toNat default).Factors.length) 0 (t10.getD t12.toNat default)) fun r14=>.i (isL r14) (.k (.inl (getL r14))) (.h ((getR r14).1,(getR r14).2.1,(getR r14).2.2.1,(IntKind.i64.wrap ((getR r14).2.2.2+1)),()) ()))) .d) (.bn (zpN zq (a.length+t10.length+t11.toNat +t12.toNat +(t10.getD t12.toNat default).Factors.length+(Int.ofNat (t10.getD t12.toNat default).Factors.length).toNat +Int.toNat 0+(t10.getD t12.toNat default).Factors.length+1000) a t10 t11 t12 (t10.getD t12.toNat default).Factors (Int.ofNat (t10.getD t12.toNat default).Factors.length) 0 (t10.getD t12.toNat default)) fun r16=>.i (isL r16) (.k (.inl (getL r16))) (.h ((getR r16).1,(getR r16).2.1,(getR r16).2.2.1,(IntKind.i64.wrap ((getR r16).2.2.2+1)),()) ()))))) .d) (.k (.inr ()))
def zk2 (zq:Atom→Bool×Bool) (x:ttTannotationValid2) (y:Unit):Wy ttTannotationValid2 (Unit) (Bool⊕Unit):=zxd zq x.1 x.2.1 x.2.2.1 x.2.2.2.1
def zw5 (zq:Atom→Bool×Bool) (n:Nat) (a:List Term) (t10:List Term) (t11:Int) (t12:Int):Bool×(Bool⊕Unit):=zY (zk2 zq) (.inl default) n (a,t10,t11,t12,()) ()
def zoD (r:Bool⊕Unit):LTree ty:=.ite (isL r) (.done .ret [.lit (.bool (getL r))] []) (.done (.exit 0) [] [])
def zp7:LL ty ttTannotationValid2:=za (lSl 152) (za (lSl 152) (za (lInt .i64) (za (lInt .i64) zG)))
def zqc:BL ty (Unit):=bNil
def zo1 (x:ttTannotationValid0) (y:Term×Unit):Nat:=(x.1.length+x.2.2.1.length+Int.toNat x.2.2.2.1+Int.toNat x.2.2.2.2.1+x.2.2.2.2.2.1.length+Int.toNat x.2.2.2.2.2.2.1+Int.toNat x.2.2.2.2.2.2.2.1+y.1.Factors.length+1000)
def zoC (x:ttTannotationValid2) (y:Unit):Nat:=(x.1.length+x.2.1.length+Int.toNat x.2.2.1+Int.toNat x.2.2.2.1+1000)
def zkI (zq:Atom→Bool×Bool):Cx ty:=mkCx base 85 [(107,zpd),(108,annotation_compareLists_spec),(109,ziw),(110,annotation_compareAtoms_spec),(111,(zhT zq))] [] [(4,[(0,.keep),(10,.keep),(11,.keep),(12,.keep)]),(9,[(0,.keep),(4,.keep),(10,.keep),(11,.keep),(12,.keep),(40,.keep),(41,.keep),(42,.keep)])] [(4,1,[]),(4,0,[(2,.keep)]),(9,3,[(0,.keep),(10,.keep),(11,.keep),(12,.keep)]),(9,0,[(2,.keep)])] [(9,spW zpw zp1 (zkF zq) (.inl default) zo7 zo1),(4,spW zp7 zqc (zk2 zq) (.inl default) zoD zoC)] []
theorem zwq (zq:Atom→Bool×Bool):zX (zkI zq) (lp (body Tryz.f69) 1):=zN (id:=9) (V:=zpw) (B:=zp1) (W:=zkF zq) (z:=.inl default) (tr:=zo7) (m:=zo1)
theorem zwA (zq:Atom→Bool×Bool):zX (zkI zq) (lp (body Tryz.f69) 0):=zN (id:=4) (V:=zp7) (B:=zqc) (W:=zk2 zq) (z:=.inl default) (tr:=zoD) (m:=zoC)
def zq7 (zq:Atom→Bool×Bool) (a:List Term):Wy0 (Bool):=.bn (zot a) fun r21=>.i (!r21) (.k false) (.bn (zw5 zq (a.length+a.length+(Int.ofNat a.length).toNat +Int.toNat 0+1000) a a (Int.ofNat a.length) 0) fun r20=>.i (isL r20) (.k (getL r20)) (.k true))
def zsF (zq:Atom→Bool×Bool) (a:List Term):Bool×Bool:=(zq7 zq a).fin default
theorem zuA (zq:Atom→Bool×Bool) (zuz:Sound Tryz.prog base 111 (zhT zq)):Sound Tryz.prog base 69 (zfh (zsF zq)):=
 zt (cx':=(zkI zq)) zD zo zB (zu ⟨zvc,zrn,zk7,zrl,zuz,trivial⟩) Tryz.call69 Tryz.func69 (c:=body Tryz.f69) (by kernel_rfl) (zh (l:=[lp (body Tryz.f69) 0,lp (body Tryz.f69) 1]) (by kernel_rfl) ⟨zwA zq,zwq zq,trivial⟩) (sg:=⟨[.pure],[]⟩) (A:=zsP) (res:=zrf) (W:=fun x=>zq7 zq x.1) (z:=default)
def zzf:Cx ty:=mkCx base 9 [(145,annotation_Compare_spec)] [] [] [] [] []
def zsJ (a:List Term) (b:List Term):Wy0 (Bool):=.bn (zs1 a b) fun r0=>.k (r0==0)
def zpo (a:List Term) (b:List Term):Bool×Bool:=(zsJ a b).fin default
def zqO (r:Bool):ARes ty:=⟨[.pure (.lit (.bool r))],[]⟩
def zsu:AL base (List Term×List Term×Unit):=zf (zg (vSl 152)) (zf (zg (vSl 152)) aNil)
def zpF:Ab.Spec ty:=zl zsu fun x=>((zpo x.1 x.2.1).1,zqO (zpo x.1 x.2.1).2)
theorem zwo:Sound Tryz.prog base 151 zpF:=
 zt (cx':=zzf) zD zo zB (zu ⟨zuL,trivial⟩) Tryz.call151 Tryz.func151 (c:=body Tryz.f151) (by kernel_rfl) (zh (l:=[]) (by kernel_rfl) trivial) (sg:=⟨[.pure],[]⟩) (A:=zsu) (res:=zqO) (W:=fun x=>zsJ x.1 x.2.1) (z:=default)
def zup:Cx ty:=mkCx base 27 [(83,zgR)] [] [] [] [] []
def zoa (w:Weighted) (p1:Value) (p2:Int):Wy0 (Bool):=.bn (zgn w.Value) fun r0=>.i (!r0) (.k true) (.i (w.Value.Kind != p1.Kind) (.k true) (.i (p2==0) (.k (w.Value.Int != 1)) (.k false)))
def zkE (w:Weighted) (p1:Value) (p2:Int):Bool×Bool:=(zoa w p1 p2).fin default
def zms (r:Bool):ARes ty:=⟨[.pure (.lit (.bool r))],[]⟩
def zn3:AL base (Weighted×Value×(Int×Unit)×Unit):=zf (zg (vAgg 182)) (zf (zg (ztZ 40)) (zf (zg (vBox (zqF (vInt .i64) vNil))) aNil))
def zgC:Ab.Spec ty:=zl zn3 fun x=>((zkE x.1 x.2.1 x.2.2.1.1).1,zms (zkE x.1 x.2.1 x.2.2.1.1).2)
theorem zh9:Sound Tryz.prog base 202 zgC:=
 zt (cx':=zup) zD zo zB (zu ⟨zhm,trivial⟩) Tryz.call202 Tryz.func202 (c:=body Tryz.f202) (by kernel_rfl) (zh (l:=[]) (by kernel_rfl) trivial) (sg:=⟨[.pure],[]⟩) (A:=zn3) (res:=zms) (W:=fun x=>zoa x.1 x.2.1 x.2.2.1.1) (z:=default)
abbrev ttTslicesIndexFuncLapiWeightedapiWeightedfi0:=List Weighted×(Value×(Int×Unit)×Unit)×Int×Int×Unit
def zjg (s:List Weighted) (f_0:Value) (f_1:Int) (t7:Int) (t8:Int):Wy ttTslicesIndexFuncLapiWeightedapiWeightedfi0 (Unit) (Int⊕Unit):=.i (decide (t8<t7)) (.i (decide (0≤t8)&&decide (t8<Int.ofNat s.length)) (.bn (zkE (s.getD t8.toNat default) f_0 f_1) fun r0=>.i (r0) (.k (.inl t8)) (.h (s,(f_0,(f_1,()),()),t7,(IntKind.i64.wrap (t8+1)),()) ())) .d) (.k (.inr ()))
def zcA (x:ttTslicesIndexFuncLapiWeightedapiWeightedfi0) (y:Unit):Wy ttTslicesIndexFuncLapiWeightedapiWeightedfi0 (Unit) (Int⊕Unit):=zjg x.1 x.2.1.1 x.2.1.2.1.1 x.2.2.1 x.2.2.2.1
def zje (n:Nat) (s:List Weighted) (f_0:Value) (f_1:Int) (t7:Int) (t8:Int):Bool×(Int⊕Unit):=zY (zcA) (.inl default) n (s,(f_0,(f_1,()),()),t7,t8,()) ()
def zeO (r:Int⊕Unit):LTree ty:=.ite (isL r) (.done .ret [.lit (.int .i64 (getL r))] []) (.done (.exit 0) [] [])
def zeX:LL ty ttTslicesIndexFuncLapiWeightedapiWeightedfi0:=za (lSl 182) (za (lFn 202 (za (zCp (zgF (fun x=>(⟨x.1,x.2.1,x.2.2.1⟩:Value)) (fun x=>(x.Kind,x.Int,x.Text,())) (fun _=>rfl) (za (lInt .i64) (za (lInt .i64) (za lStr zG)))) 0) (za (zCp (za (lInt .i64) zG) 0) zG))) (za (lInt .i64) (za (lInt .i64) zG)))
def ze0:BL ty (Unit):=bNil
def zeN (x:ttTslicesIndexFuncLapiWeightedapiWeightedfi0) (y:Unit):Nat:=(x.1.length+Int.toNat x.2.1.2.1.1+Int.toNat x.2.2.1+Int.toNat x.2.2.2.1+1000)
def ze4:Cx ty:=mkCx base 19 [(202,zgC)] [] [(2,[(0,.keep),(1,.keep),(7,.keep),(8,.keep)])] [(2,1,[]),(2,0,[(4,.keep)])] [(2,spW zeX ze0 (zcA) (.inl default) zeO zeN)] []
theorem ziT:zX ze4 (lp (body Tryz.f201) 0):=zN (id:=2) (V:=zeX) (B:=ze0) (W:=zcA) (z:=.inl default) (tr:=zeO) (m:=zeN)
def zfl (s:List Weighted) (f_0:Value) (f_1:Int):Wy0 (Int):=.bn (zje (s.length+f_1.toNat +(Int.ofNat s.length).toNat +Int.toNat 0+1000) s f_0 f_1 (Int.ofNat s.length) 0) fun r2=>.i (isL r2) (.k (getL r2)) (.k (-1:Int))
def zcR (s:List Weighted) (f_0:Value) (f_1:Int):Bool×Int:=(zfl s f_0 f_1).fin default
def zeM (r:Int):ARes ty:=⟨[.pure (.lit (.int .i64 r))],[]⟩
def zfm:AL base (List Weighted×(Value×(Int×Unit)×Unit)×Unit):=zf (zg (vSl 182)) (zf (zg (vFn 202 (zqF (ztZ 40) (zqF (vBox (zqF (vInt .i64) vNil)) vNil)))) aNil)
def zer:Ab.Spec ty:=zl zfm fun x=>((zcR x.1 x.2.1.1 x.2.1.2.1.1).1,zeM (zcR x.1 x.2.1.1 x.2.1.2.1.1).2)
theorem ziu:Sound Tryz.prog base 201 zer:=
 zt (cx':=ze4) zD zo zB (zu ⟨zh9,trivial⟩) Tryz.call201 Tryz.func201 (c:=body Tryz.f201) (by kernel_rfl) (zh (l:=[lp (body Tryz.f201) 0]) (by kernel_rfl) ⟨ziT,trivial⟩) (sg:=⟨[.pure],[]⟩) (A:=zfm) (res:=zeM) (W:=fun x=>zfl x.1 x.2.1.1 x.2.1.2.1.1) (z:=default)
def zis:Cx ty:=mkCx base 9 [(201,zer),(202,zgC)] [] [] [] [] []
def zep (s:List Weighted) (f_0:Value) (f_1:Int):Wy0 (Bool):=.bn (zcR s f_0 f_1) fun r0=>.k (decide (r0≥0))
def zbd (s:List Weighted) (f_0:Value) (f_1:Int):Bool×Bool:=(zep s f_0 f_1).fin default
def zd4 (r:Bool):ARes ty:=⟨[.pure (.lit (.bool r))],[]⟩
def zex:AL base (List Weighted×(Value×(Int×Unit)×Unit)×Unit):=zf (zg (vSl 182)) (zf (zg (vFn 202 (zqF (ztZ 40) (zqF (vBox (zqF (vInt .i64) vNil)) vNil)))) aNil)
def zdW:Ab.Spec ty:=zl zex fun x=>((zbd x.1 x.2.1.1 x.2.1.2.1.1).1,zd4 (zbd x.1 x.2.1.1 x.2.1.2.1.1).2)
theorem zhY:Sound Tryz.prog base 155 zdW:=
 zt (cx':=zis) zD zo zB (zu ⟨ziu,zh9,trivial⟩) Tryz.call155 Tryz.func155 (c:=body Tryz.f155) (by kernel_rfl) (zh (l:=[]) (by kernel_rfl) trivial) (sg:=⟨[.pure],[]⟩) (A:=zex) (res:=zd4) (W:=fun x=>zep x.1 x.2.1.1 x.2.1.2.1.1) (z:=default)
def zxK:Cx ty:=mkCx base 43 [(83,zgR),(155,zdW),(202,zgC)] [] [] [] [] []
def zqL (fn:Int) (items:List Weighted) (op:Int) (bound:Value):Wy0 (Bool):=.i (decide (fn<0)) (.k false) (.i (decide (fn>3)) (.k false) (.i (decide (op<5)) (.k false) (.i (decide (op>10)) (.k false) (.bn (zgn bound) fun r3=>.i (!r3) (.k false) (.i (fn==0) (.i (bound.Kind != 0) (.k false) (.bn (zbd items bound fn) fun r0=>.k (!r0))) (.i (fn==1) (.i (bound.Kind != 0) (.k false) (.bn (zbd items bound fn) fun r1=>.k (!r1))) (.bn (zbd items bound fn) fun r2=>.k (!r2))))))))
def zno (fn:Int) (items:List Weighted) (op:Int) (bound:Value):Bool×Bool:=(zqL fn items op bound).fin default
def zoO (r:Bool):ARes ty:=⟨[.pure (.lit (.bool r))],[]⟩
def zqx:AL base (Int×List Weighted×Int×Value×Unit):=zf (zg (vInt .i64)) (zf (zg (vSl 182)) (zf (zg (vInt .i64)) (zf (zg (vAgg 40)) aNil)))
def zn6:Ab.Spec ty:=zl zqx fun x=>((zno x.1 x.2.1 x.2.2.1 x.2.2.2.1).1,zoO (zno x.1 x.2.1 x.2.2.1 x.2.2.2.1).2)
theorem zuD:Sound Tryz.prog base 158 zn6:=
 zt (cx':=zxK) zD zo zB (zu ⟨zhm,zhY,zh9,trivial⟩) Tryz.call158 Tryz.func158 (c:=body Tryz.f158) (by kernel_rfl) (zh (l:=[]) (by kernel_rfl) trivial) (sg:=⟨[.pure],[]⟩) (A:=zqx) (res:=zoO) (W:=fun x=>zqL x.1 x.2.1 x.2.2.1 x.2.2.2.1) (z:=default)
def zsb:Cx ty:=mkCx base 7 [] [] [] [] [] []
def zlq (t:Term):Wy0 (Bool):=.k (Int.ofNat t.Factors.length==0)
def ziZ (t:Term):Bool×Bool:=(zlq t).fin default
def zkr (r:Bool):ARes ty:=⟨[.pure (.lit (.bool r))],[]⟩
def zls:AL base (Term×Unit):=zf (zg (vAgg 152)) aNil
def zeQ:Ab.Spec ty:=zl zls fun x=>((ziZ x.1).1,zkr (ziZ x.1).2)
theorem zg4:Sound Tryz.prog base 200 zeQ:=
 zt (cx':=zsb) zD zo zB (zu trivial) Tryz.call200 Tryz.func200 (c:=body Tryz.f200) (by kernel_rfl) (zh (l:=[]) (by kernel_rfl) trivial) (sg:=⟨[.pure],[]⟩) (A:=zls) (res:=zkr) (W:=fun x=>zlq x.1) (z:=default)
abbrev ttTslicesIndexFuncapiAnnotationapiTermhc0:=List Term×Unit×Int×Int×Unit
def zjP (s:List Term) (t7:Int) (t8:Int):Wy ttTslicesIndexFuncapiAnnotationapiTermhc0 (Unit) (Int⊕Unit):=.i (decide (t8<t7)) (.i (decide (0≤t8)&&decide (t8<Int.ofNat s.length)) (.i ((ziZ (s.getD t8.toNat default)).2) (.k (.inl t8)) (.h (s,(),t7,(IntKind.i64.wrap (t8+1)),()) ())) .d) (.k (.inr ()))
def zcT (x:ttTslicesIndexFuncapiAnnotationapiTermhc0) (y:Unit):Wy ttTslicesIndexFuncapiAnnotationapiTermhc0 (Unit) (Int⊕Unit):=zjP x.1 x.2.2.1 x.2.2.2.1
def zjL (n:Nat) (s:List Term) (t7:Int) (t8:Int):Bool×(Int⊕Unit):=zY (zcT) (.inl default) n (s,(),t7,t8,()) ()
def zfw (r:Int⊕Unit):LTree ty:=.ite (isL r) (.done .ret [.lit (.int .i64 (getL r))] []) (.done (.exit 0) [] [])
def zfX:LL ty ttTslicesIndexFuncapiAnnotationapiTermhc0:=za (lSl 152) (za (lFn 200 (zG)) (za (lInt .i64) (za (lInt .i64) zG)))
def zfS:BL ty (Unit):=bNil
def zfz (x:ttTslicesIndexFuncapiAnnotationapiTermhc0) (y:Unit):Nat:=(x.1.length+Int.toNat x.2.2.1+Int.toNat x.2.2.2.1+1000)
def zfT:Cx ty:=mkCx base 19 [(200,zeQ)] [] [(2,[(0,.keep),(1,.keep),(7,.keep),(8,.keep)])] [(2,1,[]),(2,0,[(4,.keep)])] [(2,spW zfX zfS (zcT) (.inl default) zfw zfz)] []
theorem zjC:zX zfT (lp (body Tryz.f195) 0):=zN (id:=2) (V:=zfX) (B:=zfS) (W:=zcT) (z:=.inl default) (tr:=zfw) (m:=zfz)
def zgh (s:List Term):Wy0 (Int):=.bn (zjL (s.length+(Int.ofNat s.length).toNat +Int.toNat 0+1000) s (Int.ofNat s.length) 0) fun r0=>.i (isL r0) (.k (getL r0)) (.k (-1:Int))
def zdf (s:List Term):Bool×Int:=(zgh s).fin default
def zfu (r:Int):ARes ty:=⟨[.pure (.lit (.int .i64 r))],[]⟩
def zgb:AL base (List Term×Unit×Unit):=zf (zg (vSl 152)) (zf (zg (vFn 200 vNil)) aNil)
def zfi:Ab.Spec ty:=zl zgb fun x=>((zdf x.1).1,zfu (zdf x.1).2)
theorem zjd:Sound Tryz.prog base 195 zfi:=
 zt (cx':=zfT) zD zo zB (zu ⟨zg4,trivial⟩) Tryz.call195 Tryz.func195 (c:=body Tryz.f195) (by kernel_rfl) (zh (l:=[lp (body Tryz.f195) 0]) (by kernel_rfl) ⟨zjC,trivial⟩) (sg:=⟨[.pure],[]⟩) (A:=zgb) (res:=zfu) (W:=fun x=>zgh x.1) (z:=default)
def zji:Cx ty:=mkCx base 9 [(195,zfi),(200,zeQ)] [] [] [] [] []
def zfb (s:List Term):Wy0 (Bool):=.bn (zdf s) fun r0=>.k (decide (r0≥0))
def zcU (s:List Term):Bool×Bool:=(zfb s).fin default
def zeD (r:Bool):ARes ty:=⟨[.pure (.lit (.bool r))],[]⟩
def zfj:AL base (List Term×Unit×Unit):=zf (zg (vSl 152)) (zf (zg (vFn 200 vNil)) aNil)
def zen:Ab.Spec ty:=zl zfj fun x=>((zcU x.1).1,zeD (zcU x.1).2)
theorem zix:Sound Tryz.prog base 138 zen:=
 zt (cx':=zji) zD zo zB (zu ⟨zjd,zg4,trivial⟩) Tryz.call138 Tryz.func138 (c:=body Tryz.f138) (by kernel_rfl) (zh (l:=[]) (by kernel_rfl) trivial) (sg:=⟨[.pure],[]⟩) (A:=zfj) (res:=zeD) (W:=fun x=>zfb x.1) (z:=default)
def zt2:Cx ty:=mkCx base 5 [(138,zen),(200,zeQ)] [] [] [] [] []
def znn (a:List Term):Wy0 (Bool):=.bn (zcU a) fun r0=>.k r0
def zkg (a:List Term):Bool×Bool:=(znn a).fin default
def zlX (r:Bool):ARes ty:=⟨[.pure (.lit (.bool r))],[]⟩
def znj:AL base (List Term×Unit):=zf (zg (vSl 152)) aNil
def zlt:Ab.Spec ty:=zl znj fun x=>((zkg x.1).1,zlX (zkg x.1).2)
theorem zr7:Sound Tryz.prog base 154 zlt:=
 zt (cx':=zt2) zD zo zB (zu ⟨zix,zg4,trivial⟩) Tryz.call154 Tryz.func154 (c:=body Tryz.f154) (by kernel_rfl) (zh (l:=[]) (by kernel_rfl) trivial) (sg:=⟨[.pure],[]⟩) (A:=znj) (res:=zlX) (W:=fun x=>znn x.1) (z:=default)
def zuv:Cx ty:=mkCx base 14 [] [] [] [] [] []
def znS (a:List Term):Wy0 (Bool):=.i (Int.ofNat a.length==1) (.i (decide ((0:Int)≤(0:Int))&&decide (0<Int.ofNat a.length)) (.k (Int.ofNat (a.getD (Int.toNat 0) default).Factors.length==0)) .d) (.k false)
def zkO (a:List Term):Bool×Bool:=(znS a).fin default
def zmn (r:Bool):ARes ty:=⟨[.pure (.lit (.bool r))],[]⟩
def znZ:AL base (List Term×Unit):=zf (zg (vSl 152)) aNil
def zl1:Ab.Spec ty:=zl znZ fun x=>((zkO x.1).1,zmn (zkO x.1).2)
theorem zsG:Sound Tryz.prog base 152 zl1:=
 zt (cx':=zuv) zD zo zB (zu trivial) Tryz.call152 Tryz.func152 (c:=body Tryz.f152) (by kernel_rfl) (zh (l:=[]) (by kernel_rfl) trivial) (sg:=⟨[.pure],[]⟩) (A:=znZ) (res:=zmn) (W:=fun x=>znS x.1) (z:=default)
def zyj:Cx ty:=mkCx base 42 [(109,ziw)] [] [] [] [] []
def zrs (a:List Term):Wy0 (Bool):=.i (Int.ofNat a.length != 1) (.k false) (.i (decide ((0:Int)≤(0:Int))&&decide (0<Int.ofNat a.length)) (.i ((a.getD (Int.toNat 0) default).Coeff != 1) (.k false) (.i (decide ((0:Int)≤(0:Int))&&decide (0<Int.ofNat a.length)) (.i (Int.ofNat (a.getD (Int.toNat 0) default).Factors.length != 1) (.k false) (.i (decide ((0:Int)≤(0:Int))&&decide (0<Int.ofNat a.length)) (.i (decide ((0:Int)≤(0:Int))&&decide (0<Int.ofNat (a.getD (Int.toNat 0) default).Factors.length)) (.i (((a.getD (Int.toNat 0) default).Factors.getD (Int.toNat 0) default).Exp==1) (.i (((a.getD (Int.toNat 0) default).Factors.getD (Int.toNat 0) default).Atom.Kind==2) (.k true) (.bn (zim (Atom.mk ((a.getD (Int.toNat 0) default).Factors.getD (Int.toNat 0) default).Atom.Kind ((a.getD (Int.toNat 0) default).Factors.getD (Int.toNat 0) default).Atom.Row ((a.getD (Int.toNat 0) default).Factors.getD (Int.toNat 0) default).Atom.Args ((a.getD (Int.toNat 0) default).Factors.getD (Int.toNat 0) default).Atom.Func ((a.getD (Int.toNat 0) default).Factors.getD (Int.toNat 0) default).Atom.Items ((a.getD (Int.toNat 0) default).Factors.getD (Int.toNat 0) default).Atom.Op ((a.getD (Int.toNat 0) default).Factors.getD (Int.toNat 0) default).Atom.Bound)) fun r0=>.k r0)) (.k false)) .d) .d)) .d)) .d)
def zoe (a:List Term):Bool×Bool:=(zrs a).fin default
def zpQ (r:Bool):ARes ty:=⟨[.pure (.lit (.bool r))],[]⟩
def zrv:AL base (List Term×Unit):=zf (zg (vSl 152)) aNil
def zo5:Ab.Spec ty:=zl zrv fun x=>((zoe x.1).1,zpQ (zoe x.1).2)
theorem zvs:Sound Tryz.prog base 153 zo5:=
 zt (cx':=zyj) zD zo zB (zu ⟨zk7,trivial⟩) Tryz.call153 Tryz.func153 (c:=body Tryz.f153) (by kernel_rfl) (zh (l:=[]) (by kernel_rfl) trivial) (sg:=⟨[.pure],[]⟩) (A:=zrv) (res:=zpQ) (W:=fun x=>zrs x.1) (z:=default)
def zBZ:Cx ty:=mkCx base 11 [] [] [] [] [] []
def zwN (id:RowID):Wy0 (Bool):=.i (decide (id.Table≥1)) (.k (decide (id.Seq≥1))) (.k false)
def zuR (id:RowID):Bool×Bool:=(zwN id).fin default
def zum (r:Bool):ARes ty:=⟨[.pure (.lit (.bool r))],[]⟩
def zxQ:AL base (RowID×Unit):=zf (zg (vAgg 155)) aNil
def ztx:Ab.Spec ty:=zl zxQ fun x=>((zuR x.1).1,zum (zuR x.1).2)
theorem zzY:Sound Tryz.prog base 150 ztx:=
 zt (cx':=zBZ) zD zo zB (zu trivial) Tryz.call150 Tryz.func150 (c:=body Tryz.f150) (by kernel_rfl) (zh (l:=[]) (by kernel_rfl) trivial) (sg:=⟨[.pure],[]⟩) (A:=zxQ) (res:=zum) (W:=fun x=>zwN x.1) (z:=default)
abbrev ttTslicesIsSortedFuncLapiWeightedapiWeighted0:=List Weighted×Unit×Int×Unit
def zjl (x_:List Weighted) (i:Int):Wy ttTslicesIsSortedFuncLapiWeightedapiWeighted0 (Unit) (Bool⊕Unit):=.i (decide (i>0)) (.i (decide (0≤i)&&decide (i<Int.ofNat x_.length)) (.i (decide (0≤IntKind.i64.wrap (i - 1))&&decide (IntKind.i64.wrap (i - 1)<Int.ofNat x_.length)) (.bn (zn7 (x_.getD i.toNat default) (x_.getD (IntKind.i64.wrap (i - 1)).toNat default)) fun r0=>.i (decide (r0<0)) (.k (.inl false)) (.h (x_,(),(IntKind.i64.wrap (i - 1)),()) ())) .d) .d) (.k (.inr ()))
def zcB (x:ttTslicesIsSortedFuncLapiWeightedapiWeighted0) (y:Unit):Wy ttTslicesIsSortedFuncLapiWeightedapiWeighted0 (Unit) (Bool⊕Unit):=zjl x.1 x.2.2.1
def zjk (n:Nat) (x_:List Weighted) (i:Int):Bool×(Bool⊕Unit):=zY (zcB) (.inl default) n (x_,(),i,()) ()
def zeE (r:Bool⊕Unit):LTree ty:=.ite (isL r) (.done .ret [.lit (.bool (getL r))] []) (.done (.exit 0) [] [])
def ze1:LL ty ttTslicesIsSortedFuncLapiWeightedapiWeighted0:=za (lSl 182) (za (lFn 147 (zG)) (za (lInt .i64) zG))
def zeZ:BL ty (Unit):=bNil
def ze3:Cx ty:=mkCx base 25 [(147,annotation_compareItems_spec)] [] [(2,[(0,.keep),(1,.keep),(5,.keep)])] [(2,1,[]),(2,0,[(4,.keep)])] [(2,spW ze1 zeZ (zcB) (.inl default) zeE fun x y=>(x.1.length+Int.toNat x.2.2.1+1000))] []
theorem ziW:zX ze3 (lp (body Tryz.f157) 0):=zN (id:=2) (V:=ze1) (B:=zeZ) (W:=zcB) (z:=.inl default) (tr:=zeE) (m:=fun x y=>(x.1.length+Int.toNat x.2.2.1+1000))
def zfk (x_:List Weighted):Wy0 (Bool):=.bn (zjk (x_.length+(IntKind.i64.wrap (Int.ofNat x_.length - 1)).toNat +1000) x_ (IntKind.i64.wrap (Int.ofNat x_.length - 1))) fun r2=>.i (isL r2) (.k (getL r2)) (.k true)
def zcS (x_:List Weighted):Bool×Bool:=(zfk x_).fin default
def zeR (r:Bool):ARes ty:=⟨[.pure (.lit (.bool r))],[]⟩
def zfc:AL base (List Weighted×Unit×Unit):=zf (zg (vSl 182)) (zf (zg (vFn 147 vNil)) aNil)
def zew:Ab.Spec ty:=zl zfc fun x=>((zcS x.1).1,zeR (zcS x.1).2)
theorem zir:Sound Tryz.prog base 157 zew:=
 zt (cx':=ze3) zD zo zB (zu ⟨zko,trivial⟩) Tryz.call157 Tryz.func157 (c:=body Tryz.f157) (by kernel_rfl) (zh (l:=[lp (body Tryz.f157) 0]) (by kernel_rfl) ⟨ziW,trivial⟩) (sg:=⟨[.pure],[]⟩) (A:=zfc) (res:=zeR) (W:=fun x=>zfk x.1) (z:=default)
def zbE (zb:List (List Term)→Bool×Bool) (zd:List Term→Bool×Bool) (zc:List Weighted→Bool×Bool) (ze:Weighted→Bool×Bool):Cx ty:=mkCx base 149 [(147,annotation_compareItems_spec),(148,(zbn zb)),(149,(zbU zd)),(150,ztx),(151,zpF),(152,zl1),(153,zo5),(154,zlt),(155,(zby zc)),(156,(zbT ze)),(157,zew),(158,zn6)] [] [] [] [] []
def zbo (zb:List (List Term)→Bool×Bool) (zd:List Term→Bool×Bool) (zc:List Weighted→Bool×Bool) (ze:Weighted→Bool×Bool) (x_:Atom):Wy0 (Bool):=.i (x_.Kind==0) (.i (x_.Func != 0) (.k false) (.i (Int.ofNat x_.Items.length != 0) (.k false) (.i (x_.Op != 0) (.k false) (.i (!(x_.Bound.Kind==0&&(x_.Bound.Int==0&&(x_.Bound.Text.toList==(ByteArray.mk #[]).toList&&true)))) (.k false) (.bn (zb x_.Args) fun r1=>.i (r1) (.k false) (.bn (zuR x_.Row) fun r0=>.i (r0) (.k (Int.ofNat x_.Args.length==0)) (.k false))))))) (.i (x_.Kind==1) (.i (x_.Func != 0) (.k false) (.i (Int.ofNat x_.Items.length != 0) (.k false) (.i (x_.Op != 0) (.k false) (.i (!(x_.Bound.Kind==0&&(x_.Bound.Int==0&&(x_.Bound.Text.toList==(ByteArray.mk #[]).toList&&true)))) (.k false) (.i (!(x_.Row.Table==0&&(x_.Row.Seq==0&&true))) (.k false) (.bn (zb x_.Args) fun r3=>.i (r3) (.k false) (.i (Int.ofNat x_.Args.length==2) (.i (decide ((0:Int)≤(0:Int))&&decide (0<Int.ofNat x_.Args.length)) (.i (decide ((0:Int)≤(1:Int))&&decide (1<Int.ofNat x_.Args.length)) (.bn (zpo (x_.Args.getD (Int.toNat 0) default) (x_.Args.getD (Int.toNat 1) default)) fun r2=>.k (!r2)) .d) .d) (.k false)))))))) (.i (x_.Kind==2) (.i (x_.Func != 0) (.k false) (.i (Int.ofNat x_.Items.length != 0) (.k false) (.i (x_.Op != 0) (.k false) (.i (!(x_.Bound.Kind==0&&(x_.Bound.Int==0&&(x_.Bound.Text.toList==(ByteArray.mk #[]).toList&&true)))) (.k false) (.i (!(x_.Row.Table==0&&(x_.Row.Seq==0&&true))) (.k false) (.bn (zb x_.Args) fun r6=>.i (r6) (.k false) (.i (Int.ofNat x_.Args.length==1) (.i (decide ((0:Int)≤(0:Int))&&decide (0<Int.ofNat x_.Args.length)) (.bn (zkO (x_.Args.getD (Int.toNat 0) default)) fun r5=>.i (!r5) (.i (decide ((0:Int)≤(0:Int))&&decide (0<Int.ofNat x_.Args.length)) (.bn (zoe (x_.Args.getD (Int.toNat 0) default)) fun r4=>.k (!r4)) .d) (.k false)) .d) (.k false)))))))) (.i (x_.Kind==3) (.i (x_.Func != 0) (.k false) (.i (Int.ofNat x_.Items.length != 0) (.k false) (.i (x_.Op != 0) (.k false) (.i (!(x_.Bound.Kind==0&&(x_.Bound.Int==0&&(x_.Bound.Text.toList==(ByteArray.mk #[]).toList&&true)))) (.k false) (.i (!(x_.Row.Table==0&&(x_.Row.Seq==0&&true))) (.k false) (.bn (zb x_.Args) fun r8=>.i (r8) (.k false) (.i (Int.ofNat x_.Args.length==1) (.i (decide ((0:Int)≤(0:Int))&&decide (0<Int.ofNat x_.Args.length)) (.bn (zkg (x_.Args.getD (Int.toNat 0) default)) fun r7=>.k (!r7)) .d) (.k false)))))))) (.i (x_.Kind==4) (.i (!(x_.Row.Table==0&&(x_.Row.Seq==0&&true))) (.k false) (.bn (zb x_.Args) fun r12=>.i (r12) (.k false) (.bn (zc x_.Items) fun r11=>.i (Int.ofNat x_.Args.length==0) (.i (decide (Int.ofNat x_.Items.length>0)) (.i (!r11) (.bn (zcS x_.Items) fun r10=>.i (r10) (.bn (zno x_.Func x_.Items x_.Op x_.Bound) fun r9=>.k r9) (.k false)) (.k false)) (.k false)) (.k false)))) (.i (x_.Func != 0) (.k false) (.i (Int.ofNat x_.Items.length != 0) (.k false) (.i (x_.Op != 0) (.k false) (.i (!(x_.Bound.Kind==0&&(x_.Bound.Int==0&&(x_.Bound.Text.toList==(ByteArray.mk #[]).toList&&true)))) (.k false) (.i (!(x_.Row.Table==0&&(x_.Row.Seq==0&&true))) (.k false) (.bn (zb x_.Args) fun r14=>.i (r14) (.k false) (.k false)))))))))))
def zoV (zb:List (List Term)→Bool×Bool) (zd:List Term→Bool×Bool) (zc:List Weighted→Bool×Bool) (ze:Weighted→Bool×Bool) (x_:Atom):Bool×Bool:=(zbo zb zd zc ze x_).fin default
theorem zsm (zb:List (List Term)→Bool×Bool) (zd:List Term→Bool×Bool) (zc:List Weighted→Bool×Bool) (ze:Weighted→Bool×Bool) (v_Row:RowID) (v_Args:List (List Term)) (v_Func:Int) (v_Items:List Weighted) (v_Op:Int) (v_Bound:Value)  :zgE (zbE zb zd zc ze) Tryz.f111 (body Tryz.f111) ⟨[.pure],[]⟩ [.pure (.agg (base.enc 158 (Atom.mk (Int.ofNat 0) v_Row v_Args v_Func v_Items v_Op v_Bound)))]=(zbo zb zd zc ze (Atom.mk (Int.ofNat 0) v_Row v_Args v_Func v_Items v_Op v_Bound)).ev noH (fun r=>some (zbq r)) none:=by kernel_rfl
theorem zsC (zb:List (List Term)→Bool×Bool) (zd:List Term→Bool×Bool) (zc:List Weighted→Bool×Bool) (ze:Weighted→Bool×Bool) (v_Row:RowID) (v_Args:List (List Term)) (v_Func:Int) (v_Items:List Weighted) (v_Op:Int) (v_Bound:Value)  :zgE (zbE zb zd zc ze) Tryz.f111 (body Tryz.f111) ⟨[.pure],[]⟩ [.pure (.agg (base.enc 158 (Atom.mk (Int.ofNat 1) v_Row v_Args v_Func v_Items v_Op v_Bound)))]=(zbo zb zd zc ze (Atom.mk (Int.ofNat 1) v_Row v_Args v_Func v_Items v_Op v_Bound)).ev noH (fun r=>some (zbq r)) none:=by kernel_rfl
theorem zsn (zb:List (List Term)→Bool×Bool) (zd:List Term→Bool×Bool) (zc:List Weighted→Bool×Bool) (ze:Weighted→Bool×Bool) (v_Row:RowID) (v_Args:List (List Term)) (v_Func:Int) (v_Items:List Weighted) (v_Op:Int) (v_Bound:Value)  :zgE (zbE zb zd zc ze) Tryz.f111 (body Tryz.f111) ⟨[.pure],[]⟩ [.pure (.agg (base.enc 158 (Atom.mk (Int.ofNat 2) v_Row v_Args v_Func v_Items v_Op v_Bound)))]=(zbo zb zd zc ze (Atom.mk (Int.ofNat 2) v_Row v_Args v_Func v_Items v_Op v_Bound)).ev noH (fun r=>some (zbq r)) none:=by kernel_rfl
theorem zsx (zb:List (List Term)→Bool×Bool) (zd:List Term→Bool×Bool) (zc:List Weighted→Bool×Bool) (ze:Weighted→Bool×Bool) (v_Row:RowID) (v_Args:List (List Term)) (v_Func:Int) (v_Items:List Weighted) (v_Op:Int) (v_Bound:Value)  :zgE (zbE zb zd zc ze) Tryz.f111 (body Tryz.f111) ⟨[.pure],[]⟩ [.pure (.agg (base.enc 158 (Atom.mk (Int.ofNat 3) v_Row v_Args v_Func v_Items v_Op v_Bound)))]=(zbo zb zd zc ze (Atom.mk (Int.ofNat 3) v_Row v_Args v_Func v_Items v_Op v_Bound)).ev noH (fun r=>some (zbq r)) none:=by kernel_rfl
theorem zsA (zb:List (List Term)→Bool×Bool) (zd:List Term→Bool×Bool) (zc:List Weighted→Bool×Bool) (ze:Weighted→Bool×Bool) (v_Row:RowID) (v_Args:List (List Term)) (v_Func:Int) (v_Items:List Weighted) (v_Op:Int) (v_Bound:Value)  :zgE (zbE zb zd zc ze) Tryz.f111 (body Tryz.f111) ⟨[.pure],[]⟩ [.pure (.agg (base.enc 158 (Atom.mk (Int.ofNat 4) v_Row v_Args v_Func v_Items v_Op v_Bound)))]=(zbo zb zd zc ze (Atom.mk (Int.ofNat 4) v_Row v_Args v_Func v_Items v_Op v_Bound)).ev noH (fun r=>some (zbq r)) none:=by kernel_rfl
theorem zsT (zb:List (List Term)→Bool×Bool) (zd:List Term→Bool×Bool) (zc:List Weighted→Bool×Bool) (ze:Weighted→Bool×Bool) (n:Nat) (v_Row:RowID) (v_Args:List (List Term)) (v_Func:Int) (v_Items:List Weighted) (v_Op:Int) (v_Bound:Value)  :zgE (zbE zb zd zc ze) Tryz.f111 (body Tryz.f111) ⟨[.pure],[]⟩ [.pure (.agg (base.enc 158 (Atom.mk (Int.ofNat (n+5)) v_Row v_Args v_Func v_Items v_Op v_Bound)))]=(zbo zb zd zc ze (Atom.mk (Int.ofNat (n+5)) v_Row v_Args v_Func v_Items v_Op v_Bound)).ev noH (fun r=>some (zbq r)) none:=by kernel_rfl
theorem zsS (zb:List (List Term)→Bool×Bool) (zd:List Term→Bool×Bool) (zc:List Weighted→Bool×Bool) (ze:Weighted→Bool×Bool) (n:Nat) (v_Row:RowID) (v_Args:List (List Term)) (v_Func:Int) (v_Items:List Weighted) (v_Op:Int) (v_Bound:Value)  :zgE (zbE zb zd zc ze) Tryz.f111 (body Tryz.f111) ⟨[.pure],[]⟩ [.pure (.agg (base.enc 158 (Atom.mk (Int.negSucc n) v_Row v_Args v_Func v_Items v_Op v_Bound)))]=(zbo zb zd zc ze (Atom.mk (Int.negSucc n) v_Row v_Args v_Func v_Items v_Op v_Bound)).ev noH (fun r=>some (zbq r)) none:=by kernel_rfl
theorem zs3 (zb:List (List Term)→Bool×Bool) (zd:List Term→Bool×Bool) (zc:List Weighted→Bool×Bool) (ze:Weighted→Bool×Bool) (x_:Atom):zgE (zbE zb zd zc ze) Tryz.f111 (body Tryz.f111) ⟨[.pure],[]⟩ [.pure (.agg (base.enc 158 x_))]=(zbo zb zd zc ze x_).ev noH (fun r=>some (zbq r)) none:=by
 obtain ⟨v_Kind,v_Row,v_Args,v_Func,v_Items,v_Op,v_Bound⟩:=x_
 match v_Kind with
 | .ofNat 0=>exact zsm zb zd zc ze v_Row v_Args v_Func v_Items v_Op v_Bound 
 | .ofNat 1=>exact zsC zb zd zc ze v_Row v_Args v_Func v_Items v_Op v_Bound 
 | .ofNat 2=>exact zsn zb zd zc ze v_Row v_Args v_Func v_Items v_Op v_Bound 
 | .ofNat 3=>exact zsx zb zd zc ze v_Row v_Args v_Func v_Items v_Op v_Bound 
 | .ofNat 4=>exact zsA zb zd zc ze v_Row v_Args v_Func v_Items v_Op v_Bound 
 | .ofNat (n+5)=>exact zsT zb zd zc ze n v_Row v_Args v_Func v_Items v_Op v_Bound 
 | .negSucc n=>exact zsS zb zd zc ze n v_Row v_Args v_Func v_Items v_Op v_Bound 
theorem zrM (zb:List (List Term)→Bool×Bool) (zd:List Term→Bool×Bool) (zc:List Weighted→Bool×Bool) (ze:Weighted→Bool×Bool) (zhK:Sound Tryz.prog base 148 (zbn zb)) (zdT:Sound Tryz.prog base 149 (zbU zd)) (zih:Sound Tryz.prog base 155 (zby zc)) (zdV:Sound Tryz.prog base 156 (zbT ze)):Sound Tryz.prog base 111 (zhT (zoV zb zd zc ze)):=
 zt (cx':=(zbE zb zd zc ze)) zD zo zB (zu ⟨zko,zhK,zdT,zzY,zwo,zsG,zvs,zr7,zih,zdV,zir,zuD,trivial⟩) Tryz.call111 Tryz.func111 (c:=body Tryz.f111) (by kernel_rfl) (zh (l:=[]) (by kernel_rfl) trivial) (sg:=⟨[.pure],[]⟩) (A:=zoR) (res:=zbq) (W:=fun x=>zbo zb zd zc ze x.1) (z:=default) (fun x=>zs3 zb zd zc ze x.1) (fun _=>by kernel_rfl)
def zrT (zQ:List Term→Bool×Bool):Cx ty:=mkCx base 11 [(69,(zfh zQ))] [] [] [] [] []
def zlv (zQ:List Term→Bool×Bool) (a:List Term):Wy0 (Bool):=.bn (zQ a) fun r0=>.i (!r0) (.k true) (.k (Int.ofNat a.length==0))
def zmt (zQ:List Term→Bool×Bool) (a:List Term):Bool×Bool:=(zlv zQ a).fin default
theorem zqq (zQ:List Term→Bool×Bool) (zlO:Sound Tryz.prog base 69 (zfh zQ)):Sound Tryz.prog base 149 (zbU (zmt zQ)):=
 zt (cx':=(zrT zQ)) zD zo zB (zu ⟨zlO,trivial⟩) Tryz.call149 Tryz.func149 (c:=body Tryz.f149) (by kernel_rfl) (zh (l:=[]) (by kernel_rfl) trivial) (sg:=⟨[.pure],[]⟩) (A:=zm1) (res:=zlz) (W:=fun x=>zlv zQ x.1) (z:=default)
def zse (zQ:List Term→Bool×Bool):Cx ty:=mkCx base 13 [(69,(zfh zQ))] [] [] [] [] []
def zlx (zQ:List Term→Bool×Bool) (w:Weighted):Wy0 (Bool):=.bn (zQ w.Ann) fun r0=>.i (!r0) (.k true) (.k (Int.ofNat w.Ann.length==0))
def zmp (zQ:List Term→Bool×Bool) (w:Weighted):Bool×Bool:=(zlx zQ w).fin default
theorem zqs (zQ:List Term→Bool×Bool) (zlO:Sound Tryz.prog base 69 (zfh zQ)):Sound Tryz.prog base 156 (zbT (zmp zQ)):=
 zt (cx':=(zse zQ)) zD zo zB (zu ⟨zlO,trivial⟩) Tryz.call156 Tryz.func156 (c:=body Tryz.f156) (by kernel_rfl) (zh (l:=[]) (by kernel_rfl) trivial) (sg:=⟨[.pure],[]⟩) (A:=zmI) (res:=zll) (W:=fun x=>zlx zQ x.1) (z:=default)
def zht (zd:List Term→Bool×Bool) (zF:List (List Term)→Bool×Int):Cx ty:=mkCx base 9 [(149,(zbU zd)),(199,(zbr zF))] [] [] [] [] []
def zdj (zd:List Term→Bool×Bool) (zF:List (List Term)→Bool×Int) (s:List (List Term)):Wy0 (Bool):=.bn (zF s) fun r0=>.k (decide (r0≥0))
def zdH (zd:List Term→Bool×Bool) (zF:List (List Term)→Bool×Int) (s:List (List Term)):Bool×Bool:=(zdj zd zF s).fin default
theorem zg6 (zd:List Term→Bool×Bool) (zF:List (List Term)→Bool×Int) (zdT:Sound Tryz.prog base 149 (zbU zd)) (zib:Sound Tryz.prog base 199 (zbr zF)):Sound Tryz.prog base 148 (zbn (zdH zd zF)):=
 zt (cx':=(zht zd zF)) zD zo zB (zu ⟨zdT,zib,trivial⟩) Tryz.call148 Tryz.func148 (c:=body Tryz.f148) (by kernel_rfl) (zh (l:=[]) (by kernel_rfl) trivial) (sg:=⟨[.pure],[]⟩) (A:=zdI) (res:=zdi) (W:=fun x=>zdj zd zF x.1) (z:=default)
def zh7 (ze:Weighted→Bool×Bool) (zH:List Weighted→Bool×Int):Cx ty:=mkCx base 9 [(156,(zbT ze)),(201,(zbK zH))] [] [] [] [] []
def zd5 (ze:Weighted→Bool×Bool) (zH:List Weighted→Bool×Int) (s:List Weighted):Wy0 (Bool):=.bn (zH s) fun r0=>.k (decide (r0≥0))
def zeo (ze:Weighted→Bool×Bool) (zH:List Weighted→Bool×Int) (s:List Weighted):Bool×Bool:=(zd5 ze zH s).fin default
theorem zhJ (ze:Weighted→Bool×Bool) (zH:List Weighted→Bool×Int) (zdV:Sound Tryz.prog base 156 (zbT ze)) (ziV:Sound Tryz.prog base 201 (zbK zH)):Sound Tryz.prog base 155 (zby (zeo ze zH)):=
 zt (cx':=(zh7 ze zH)) zD zo zB (zu ⟨zdV,ziV,trivial⟩) Tryz.call155 Tryz.func155 (c:=body Tryz.f155) (by kernel_rfl) (zh (l:=[]) (by kernel_rfl) trivial) (sg:=⟨[.pure],[]⟩) (A:=zev) (res:=zd3) (W:=fun x=>zd5 ze zH x.1) (z:=default)
abbrev ttTslicesIndexFuncLapiAnnotationapiAnnotationv10:=List (List Term)×Unit×Int×Int×Unit
def zhX (zd:List Term→Bool×Bool) (s:List (List Term)) (t7:Int) (t8:Int):Wy ttTslicesIndexFuncLapiAnnotationapiAnnotationv10 (Unit) (Int⊕Unit):=.i (decide (t8<t7)) (.i (decide (0≤t8)&&decide (t8<Int.ofNat s.length)) (.bn (zd (s.getD t8.toNat default)) fun r0=>.i (r0) (.k (.inl t8)) (.h (s,(),t7,(IntKind.i64.wrap (t8+1)),()) ())) .d) (.k (.inr ()))
def zb1 (zd:List Term→Bool×Bool) (x:ttTslicesIndexFuncLapiAnnotationapiAnnotationv10) (y:Unit):Wy ttTslicesIndexFuncLapiAnnotationapiAnnotationv10 (Unit) (Int⊕Unit):=zhX zd x.1 x.2.2.1 x.2.2.2.1
def zhZ (zd:List Term→Bool×Bool) (n:Nat) (s:List (List Term)) (t7:Int) (t8:Int):Bool×(Int⊕Unit):=zY (zb1 zd) (.inl default) n (s,(),t7,t8,()) ()
def zdv (r:Int⊕Unit):LTree ty:=.ite (isL r) (.done .ret [.lit (.int .i64 (getL r))] []) (.done (.exit 0) [] [])
def zdJ:LL ty ttTslicesIndexFuncLapiAnnotationapiAnnotationv10:=za (lSl 36) (za (lFn 149 (zG)) (za (lInt .i64) (za (lInt .i64) zG)))
def zdN:BL ty (Unit):=bNil
def zdw (x:ttTslicesIndexFuncLapiAnnotationapiAnnotationv10) (y:Unit):Nat:=(x.1.length+Int.toNat x.2.2.1+Int.toNat x.2.2.2.1+1000)
def zdK (zd:List Term→Bool×Bool):Cx ty:=mkCx base 19 [(149,(zbU zd))] [] [(2,[(0,.keep),(1,.keep),(7,.keep),(8,.keep)])] [(2,1,[]),(2,0,[(4,.keep)])] [(2,spW zdJ zdN (zb1 zd) (.inl default) zdv zdw)] []
theorem zhO (zd:List Term→Bool×Bool):zX (zdK zd) (lp (body Tryz.f199) 0):=zN (id:=2) (V:=zdJ) (B:=zdN) (W:=zb1 zd) (z:=.inl default) (tr:=zdv) (m:=zdw)
def zdQ (zd:List Term→Bool×Bool) (s:List (List Term)):Wy0 (Int):=.bn (zhZ zd (s.length+(Int.ofNat s.length).toNat +Int.toNat 0+1000) s (Int.ofNat s.length) 0) fun r2=>.i (isL r2) (.k (getL r2)) (.k (-1:Int))
def zd9 (zd:List Term→Bool×Bool) (s:List (List Term)):Bool×Int:=(zdQ zd s).fin default
theorem zhw (zd:List Term→Bool×Bool) (zdT:Sound Tryz.prog base 149 (zbU zd)):Sound Tryz.prog base 199 (zbr (zd9 zd)):=
 zt (cx':=(zdK zd)) zD zo zB (zu ⟨zdT,trivial⟩) Tryz.call199 Tryz.func199 (c:=body Tryz.f199) (by kernel_rfl) (zh (l:=[lp (body Tryz.f199) 0]) (by kernel_rfl) ⟨zhO zd,trivial⟩) (sg:=⟨[.pure],[]⟩) (A:=zeb) (res:=zdR) (W:=fun x=>zdQ zd x.1) (z:=default)
abbrev ttTslicesIndexFuncLapiWeightedapiWeightedv20:=List Weighted×Unit×Int×Int×Unit
def ziL (ze:Weighted→Bool×Bool) (s:List Weighted) (t7:Int) (t8:Int):Wy ttTslicesIndexFuncLapiWeightedapiWeightedv20 (Unit) (Int⊕Unit):=.i (decide (t8<t7)) (.i (decide (0≤t8)&&decide (t8<Int.ofNat s.length)) (.bn (ze (s.getD t8.toNat default)) fun r0=>.i (r0) (.k (.inl t8)) (.h (s,(),t7,(IntKind.i64.wrap (t8+1)),()) ())) .d) (.k (.inr ()))
def zcn (ze:Weighted→Bool×Bool) (x:ttTslicesIndexFuncLapiWeightedapiWeightedv20) (y:Unit):Wy ttTslicesIndexFuncLapiWeightedapiWeightedv20 (Unit) (Int⊕Unit):=ziL ze x.1 x.2.2.1 x.2.2.2.1
def ziK (ze:Weighted→Bool×Bool) (n:Nat) (s:List Weighted) (t7:Int) (t8:Int):Bool×(Int⊕Unit):=zY (zcn ze) (.inl default) n (s,(),t7,t8,()) ()
def zeg (r:Int⊕Unit):LTree ty:=.ite (isL r) (.done .ret [.lit (.int .i64 (getL r))] []) (.done (.exit 0) [] [])
def zez:LL ty ttTslicesIndexFuncLapiWeightedapiWeightedv20:=za (lSl 182) (za (lFn 156 (zG)) (za (lInt .i64) (za (lInt .i64) zG)))
def zeu:BL ty (Unit):=bNil
def zeh (x:ttTslicesIndexFuncLapiWeightedapiWeightedv20) (y:Unit):Nat:=(x.1.length+Int.toNat x.2.2.1+Int.toNat x.2.2.2.1+1000)
def zes (ze:Weighted→Bool×Bool):Cx ty:=mkCx base 19 [(156,(zbT ze))] [] [(2,[(0,.keep),(1,.keep),(7,.keep),(8,.keep)])] [(2,1,[]),(2,0,[(4,.keep)])] [(2,spW zez zeu (zcn ze) (.inl default) zeg zeh)] []
theorem ziv (ze:Weighted→Bool×Bool):zX (zes ze) (lp (body Tryz.f201) 0):=zN (id:=2) (V:=zez) (B:=zeu) (W:=zcn ze) (z:=.inl default) (tr:=zeg) (m:=zeh)
def zeG (ze:Weighted→Bool×Bool) (s:List Weighted):Wy0 (Int):=.bn (ziK ze (s.length+(Int.ofNat s.length).toNat +Int.toNat 0+1000) s (Int.ofNat s.length) 0) fun r2=>.i (isL r2) (.k (getL r2)) (.k (-1:Int))
def zfn (ze:Weighted→Bool×Bool) (s:List Weighted):Bool×Int:=(zeG ze s).fin default
theorem zic (ze:Weighted→Bool×Bool) (zdV:Sound Tryz.prog base 156 (zbT ze)):Sound Tryz.prog base 201 (zbK (zfn ze)):=
 zt (cx':=(zes ze)) zD zo zB (zu ⟨zdV,trivial⟩) Tryz.call201 Tryz.func201 (c:=body Tryz.f201) (by kernel_rfl) (zh (l:=[lp (body Tryz.f201) 0]) (by kernel_rfl) ⟨ziv ze,trivial⟩) (sg:=⟨[.pure],[]⟩) (A:=ze6) (res:=zeL) (W:=fun x=>zeG ze x.1) (z:=default)
def zcx:Nat→(List Term→Bool×Bool)×(Atom→Bool×Bool)×(List Term→Bool×Bool)×(Weighted→Bool×Bool)×(List (List Term)→Bool×Int)×(List (List Term)→Bool×Bool)×(List Weighted→Bool×Int)×(List Weighted→Bool×Bool)
 | 0=>(fun _=>(false,default),fun _=>(false,default),fun _=>(false,default),fun _=>(false,default),fun _=>(false,default),fun _=>(false,default),fun _=>(false,default),fun _=>(false,default))
 | n+1=>(zsF ((zcx n).2.1),zoV ((zcx n).2.2.2.2.2.1) ((zcx n).2.2.1) ((zcx n).2.2.2.2.2.2.2) ((zcx n).2.2.2.1),zmt ((zcx n).1),zmp ((zcx n).1),zd9 ((zcx n).2.2.1),zdH ((zcx n).2.2.1) ((zcx n).2.2.2.2.1),zfn ((zcx n).2.2.2.1),zeo ((zcx n).2.2.2.1) ((zcx n).2.2.2.2.2.2.1))
def zsw (n:Nat):List Term→Bool×Bool:=(zcx n).1
def zwC (n:Nat):Atom→Bool×Bool:=(zcx n).2.1
def zub (n:Nat):List Term→Bool×Bool:=(zcx n).2.2.1
def zt6 (n:Nat):Weighted→Bool×Bool:=(zcx n).2.2.2.1
def ziC (n:Nat):List (List Term)→Bool×Int:=(zcx n).2.2.2.2.1
def zhU (n:Nat):List (List Term)→Bool×Bool:=(zcx n).2.2.2.2.2.1
def zju (n:Nat):List Weighted→Bool×Int:=(zcx n).2.2.2.2.2.2.1
def ziO (n:Nat):List Weighted→Bool×Bool:=(zcx n).2.2.2.2.2.2.2
theorem zAL:∀ n,Sound Tryz.prog base 69 (zfh (zsw n))∧Sound Tryz.prog base 111 (zhT (zwC n))∧Sound Tryz.prog base 149 (zbU (zub n))∧Sound Tryz.prog base 156 (zbT (zt6 n))∧Sound Tryz.prog base 199 (zbr (ziC n))∧Sound Tryz.prog base 148 (zbn (zhU n))∧Sound Tryz.prog base 201 (zbK (zju n))∧Sound Tryz.prog base 155 (zby (ziO n))
 | 0=>⟨zbp Tryz.call69 (fun _=>rfl),zbp Tryz.call111 (fun _=>rfl),zbp Tryz.call149 (fun _=>rfl),zbp Tryz.call156 (fun _=>rfl),zbp Tryz.call199 (fun _=>rfl),zbp Tryz.call148 (fun _=>rfl),zbp Tryz.call201 (fun _=>rfl),zbp Tryz.call155 (fun _=>rfl)⟩
 | n+1=>by
  have ih:=zAL n
  exact ⟨zuA _ (ih.2.1),zrM _ _ _ _ (ih.2.2.2.2.2.1) (ih.2.2.1) (ih.2.2.2.2.2.2.2) (ih.2.2.2.1),zqq _ (ih.1),zqs _ (ih.1),zhw _ (ih.2.2.1),zg6 _ _ (ih.2.2.1) (ih.2.2.2.2.1),zic _ (ih.2.2.2.1),zhJ _ _ (ih.2.2.2.1) (ih.2.2.2.2.2.2.1)⟩
def zuU:List Term→Bool×Bool:=zsw 1000
def annotation_Valid_spec:Ab.Spec ty:=zfh zuU
theorem zwB:Sound Tryz.prog base 69 annotation_Valid_spec:=(zAL 1000).1
def zzK (r:List Term×Int):ARes ty:=⟨[.own 152 r.1,.pure (.lit (.int .i64 r.2))],[]⟩
def zBk:AL base (List Term×List Term×Unit):=zf (zg (vSl 152)) (zf (zg (vSl 152)) aNil)
def zBp (F:List Term→List Term→Bool×(List Term×Int)):Ab.Spec ty:=zl zBk fun x=>((F x.1 x.2.1).1,zzK (F x.1 x.2.1).2)
def zxy:List Term→List Term→Bool×(List Term×Int):=fun a _=>(decide (a.length=a.length+1),default)
def annotation_Add_spec:Ab.Spec ty:=zBp zxy
theorem zxV:Sound Tryz.prog base 77 annotation_Add_spec:=zbp Tryz.call77 (fun _=>decide_eq_false (Nat.ne_of_lt (Nat.lt_succ_self _)))
def zu5:Cx ty:=mkCx base 7 [] [] [] [] [] []
def zn4 (x_:Row):Wy0 (Bool):=.k (Int.ofNat x_.Ann.length==0)
def zii (x_:Row):Bool×Bool:=(zn4 x_).fin default
def zmV (r:Bool):ARes ty:=⟨[.pure (.lit (.bool r))],[]⟩
def znN:AL base (Row×Unit):=zf (zg (vAgg 38)) aNil
def zgH:Ab.Spec ty:=zl znN fun x=>((zii x.1).1,zmV (zii x.1).2)
theorem zh6:Sound Tryz.prog base 72 zgH:=
 zt (cx':=zu5) zD zo zB (zu trivial) Tryz.call72 Tryz.func72 (c:=body Tryz.f72) (by kernel_rfl) (zh (l:=[]) (by kernel_rfl) trivial) (sg:=⟨[.pure],[]⟩) (A:=znN) (res:=zmV) (W:=fun x=>zn4 x.1) (z:=default)
abbrev ttTslicesCompareFuncLapiValueLapiValueapiValueapiValue0:=List Value×List Value×Unit×List Value×Int×Int×Unit
abbrev ttTslicesCompareFuncLapiValueLapiValueapiValueapiValue1:=Int⊕(List Value×List Value)
def zgS (s1:List Value) (s2:List Value) (t11:List Value) (t12:Int) (t13:Int):Wy ttTslicesCompareFuncLapiValueLapiValueapiValueapiValue0 (Unit) ttTslicesCompareFuncLapiValueLapiValueapiValueapiValue1:=.i (decide (t13<t12)) (.i (decide (0≤t13)&&decide (t13<Int.ofNat t11.length)) (.i (decide (t13≥Int.ofNat s2.length)) (.k (.inl 1)) (.i (decide (0≤t13)&&decide (t13<Int.ofNat s2.length)) (.bn (zbF (t11.getD t13.toNat default) (s2.getD t13.toNat default)) fun r0=>.i (r0 != 0) (.k (.inl (r0))) (.h (s1,s2,(),t11,t12,(IntKind.i64.wrap (t13+1)),()) ())) .d)) .d) (.k (.inr (s1,s2)))
def zbD (x:ttTslicesCompareFuncLapiValueLapiValueapiValueapiValue0) (y:Unit):Wy ttTslicesCompareFuncLapiValueLapiValueapiValueapiValue0 (Unit) ttTslicesCompareFuncLapiValueLapiValueapiValueapiValue1:=zgS x.1 x.2.1 x.2.2.2.1 x.2.2.2.2.1 x.2.2.2.2.2.1
def zgV (n:Nat) (s1:List Value) (s2:List Value) (t11:List Value) (t12:Int) (t13:Int):Bool×ttTslicesCompareFuncLapiValueLapiValueapiValueapiValue1:=zY (zbD) (.inl default) n (s1,s2,(),t11,t12,t13,()) ()
def zcE (r:ttTslicesCompareFuncLapiValueLapiValueapiValueapiValue1):LTree ty:=.ite (isL r) (.done .ret [.lit (.int .i64 (getL r))] []) (.done (.exit 0) [.sl 40 (getR r).1,.sl 40 (getR r).2] [])
def zcK:LL ty ttTslicesCompareFuncLapiValueLapiValueapiValueapiValue0:=za (lSl 40) (za (lSl 40) (za (lFn 79 (zG)) (za (lSl 40) (za (lInt .i64) (za (lInt .i64) zG)))))
def zcL:BL ty (Unit):=bNil
def zcF (x:ttTslicesCompareFuncLapiValueLapiValueapiValueapiValue0) (y:Unit):Nat:=(x.1.length+x.2.1.length+x.2.2.2.1.length+Int.toNat x.2.2.2.2.1+Int.toNat x.2.2.2.2.2.1+1000)
def zcJ:Cx ty:=mkCx base 39 [(79,zb5)] [] [(2,[(0,.keep),(1,.keep),(2,.keep),(11,.keep),(12,.keep),(13,.keep)])] [(2,1,[(0,.keep),(1,.keep)]),(2,0,[(6,.keep)])] [(2,spW zcK zcL (zbD) (.inl default) zcE zcF)] []
theorem zgO:zX zcJ (lp (body Tryz.f161) 0):=zN (id:=2) (V:=zcK) (B:=zcL) (W:=zbD) (z:=.inl default) (tr:=zcE) (m:=zcF)
def zcO (s1:List Value) (s2:List Value):Wy0 (Int):=.bn (zgV (s1.length+s2.length+s1.length+(Int.ofNat s1.length).toNat +Int.toNat 0+1000) s1 s2 s1 (Int.ofNat s1.length) 0) fun r2=>.i (isL r2) (.k (getL r2)) (.i (decide (Int.ofNat (getR r2).1.length<Int.ofNat (getR r2).2.length)) (.k (-1:Int)) (.k 0))
def zbI (s1:List Value) (s2:List Value):Bool×Int:=(zcO s1 s2).fin default
def zcG (r:Int):ARes ty:=⟨[.pure (.lit (.int .i64 r))],[]⟩
def zcN:AL base (List Value×List Value×Unit×Unit):=zf (zg (vSl 40)) (zf (zg (vSl 40)) (zf (zg (vFn 79 vNil)) aNil))
def zcD:Ab.Spec ty:=zl zcN fun x=>((zbI x.1 x.2.1).1,zcG (zbI x.1 x.2.1).2)
theorem zgu:Sound Tryz.prog base 161 zcD:=
 zt (cx':=zcJ) zD zo zB (zu ⟨zcf,trivial⟩) Tryz.call161 Tryz.func161 (c:=body Tryz.f161) (by kernel_rfl) (zh (l:=[lp (body Tryz.f161) 0]) (by kernel_rfl) ⟨zgO,trivial⟩) (sg:=⟨[.pure],[]⟩) (A:=zcN) (res:=zcG) (W:=fun x=>zcO x.1 x.2.1) (z:=default)
def zxY:Cx ty:=mkCx base 8 [(79,zb5),(161,zcD)] [] [] [] [] []
def zrL (a:List Value) (b:List Value):Wy0 (Int):=.bn (zbI a b) fun r0=>.k r0
def zok (a:List Value) (b:List Value):Bool×Int:=(zrL a b).fin default
def zpK (r:Int):ARes ty:=⟨[.pure (.lit (.int .i64 r))],[]⟩
def zrr:AL base (List Value×List Value×Unit):=zf (zg (vSl 40)) (zf (zg (vSl 40)) aNil)
def zoG:Ab.Spec ty:=zl zrr fun x=>((zok x.1 x.2.1).1,zpK (zok x.1 x.2.1).2)
theorem zvn:Sound Tryz.prog base 114 zoG:=
 zt (cx':=zxY) zD zo zB (zu ⟨zcf,zgu,trivial⟩) Tryz.call114 Tryz.func114 (c:=body Tryz.f114) (by kernel_rfl) (zh (l:=[]) (by kernel_rfl) trivial) (sg:=⟨[.pure],[]⟩) (A:=zrr) (res:=zpK) (W:=fun x=>zrL x.1 x.2.1) (z:=default)
def zzh:Cx ty:=mkCx base 10 [(114,zoG)] [] [] [] [] []
def zsz (x_:Row) (y_:Row):Wy0 (Int):=.bn (zok x_.Values y_.Values) fun r0=>.k r0
def zbw (x_:Row) (y_:Row):Bool×Int:=(zsz x_ y_).fin default
def zq9 (r:Int):ARes ty:=⟨[.pure (.lit (.int .i64 r))],[]⟩
def zsD:AL base (Row×Row×Unit):=zf (zg (vAgg 38)) (zf (zg (vAgg 38)) aNil)
def zkz:Ab.Spec ty:=zl zsD fun x=>((zbw x.1 x.2.1).1,zq9 (zbw x.1 x.2.1).2)
theorem zoN:Sound Tryz.prog base 74 zkz:=
 zt (cx':=zzh) zD zo zB (zu ⟨zvn,trivial⟩) Tryz.call74 Tryz.func74 (c:=body Tryz.f74) (by kernel_rfl) (zh (l:=[]) (by kernel_rfl) trivial) (sg:=⟨[.pure],[]⟩) (A:=zsD) (res:=zq9) (W:=fun x=>zsz x.1 x.2.1) (z:=default)
def zue (r:List Term×Int):ARes ty:=⟨[.own 152 r.1,.pure (.lit (.int .i64 r.2))],[]⟩
def zvb:AL base (List Term×List Binding×Unit):=zf (zg (vSl 152)) (zf (zg (vSl 210)) aNil)
def zvx (F:List Term→List Binding→Bool×(List Term×Int)):Ab.Spec ty:=zl zvb fun x=>((F x.1 x.2.1).1,zue (F x.1 x.2.1).2)
def zqg:List Term→List Binding→Bool×(List Term×Int):=fun a _=>(decide (a.length=a.length+1),default)
def annotation_Substitute_spec:Ab.Spec ty:=zvx zqg
theorem zsM:Sound Tryz.prog base 115 annotation_Substitute_spec:=zbp Tryz.call115 (fun _=>decide_eq_false (Nat.ne_of_lt (Nat.lt_succ_self _)))
def zc0:Cx ty:={ base with nt:=8 }
def zgv (s:List Value):Bool×List Value:=(decide (s.length*32≤zdn),s)
def zhH:Ab.Spec ty:=zl (cx:=base) (zf (zg (vSl 40)) aNil) fun x=>((zgv x.1).1,⟨[.own 40 (zgv x.1).2],[]⟩)
theorem zm3:zgE zc0 Tryz.f51 (body Tryz.f51) ⟨[.own 40],[]⟩ [.pure (.lit (.slice none 0 0))]=some ⟨[.own 40 []],[]⟩:=by kernel_rfl
theorem zl6 (p:Addr) (c:Nat):zgE zc0 Tryz.f51 (body Tryz.f51) ⟨[.own 40],[]⟩ [.pure (.lit (.slice (some p) 0 c))]=some ⟨[.own 40 []],[]⟩:=by kernel_rfl
theorem zml (l:List Value):zgE zc0 Tryz.f51 (body Tryz.f51) ⟨[.own 40],[]⟩ [.pure (.sl 40 l)]=bif !l.isEmpty then bif decide ((([]:List (ty 40)).length+l.length)*32≤zdn) then some ⟨[.own 40 l],[]⟩ else none else none:=by kernel_rfl
theorem zl7:Sound Tryz.prog base 51 zhH:=
 zwx (cx':=zc0) (bytes:=32) zD zo ⟨⟨rfl,rfl,rfl,rfl,rfl,rfl⟩,rfl⟩ (fun g s h=>by cases h) Tryz.call51 Tryz.func51 (c:=body Tryz.f51) (by kernel_rfl) (zh (l:=[]) (by kernel_rfl) trivial) zm3 zl6 zml (by kernel_rfl)
def zzo:Cx ty:=mkCx base 17 [(51,zhH),(115,annotation_Substitute_spec)] [] [] [] [] []
def ztG (x_:Row) (a:List Term):Wy0 (Row):=.bn (zqg a []) fun r1=>.bn (zgv x_.Values) fun r0=>.k (⟨r0,r1.1⟩:Row)
def zmA (x_:Row) (a:List Term):Bool×Row:=(ztG x_ a).fin default
def zrw (r:Row):ARes ty:=⟨[.pure (.agg (base.enc 38 r))],[]⟩
def ztI:AL base (Row×List Term×Unit):=zf (zg (vAgg 38)) (zf (zg (vSl 152)) aNil)
def zrd:Ab.Spec ty:=zl ztI fun x=>((zmA x.1 x.2.1).1,zrw (zmA x.1 x.2.1).2)
theorem zxr:Sound Tryz.prog base 76 zrd:=
 zt (cx':=zzo) zD zo zB (zu ⟨zl7,zsM,trivial⟩) Tryz.call76 Tryz.func76 (c:=body Tryz.f76) (by kernel_rfl) (zh (l:=[]) (by kernel_rfl) trivial) (sg:=⟨[.pure],[]⟩) (A:=ztI) (res:=zrw) (W:=fun x=>ztG x.1 x.2.1) (z:=default)
def zzg:Cx ty:=mkCx base 16 [(83,zgR)] [] [] [] [] []
def zst (p:pair):Wy0 (Bool):=.bn (zgn p.v) fun r0=>.i (!r0) (.k true) (.k (p.v.Kind != p.c.Type_))
def zpn (p:pair):Bool×Bool:=(zst p).fin default
def zqE (r:Bool):ARes ty:=⟨[.pure (.lit (.bool r))],[]⟩
def zsR:AL base (pair×Unit):=zf (zg (vAgg 147)) aNil
def zik:Ab.Spec ty:=zl zsR fun x=>((zpn x.1).1,zqE (zpn x.1).2)
theorem zkj:Sound Tryz.prog base 106 zik:=
 zt (cx':=zzg) zD zo zB (zu ⟨zhm,trivial⟩) Tryz.call106 Tryz.func106 (c:=body Tryz.f106) (by kernel_rfl) (zh (l:=[]) (by kernel_rfl) trivial) (sg:=⟨[.pure],[]⟩) (A:=zsR) (res:=zqE) (W:=fun x=>zst x.1) (z:=default)
abbrev ttTrelationzip0:=List Column×Unit×List Value×Int×Int×Unit
abbrev ttTrelationzip1:=List pair×Unit
def zCa (l:List Column) (t8:List Value) (t9:Int) (t10:Int) (out_:List pair):Wy ttTrelationzip0 ttTrelationzip1 (List pair):=.i (decide (t10<t9)) (.i (decide (0≤t10)&&decide (t10<Int.ofNat t8.length)) (.i (decide (0≤t10)&&decide (t10<Int.ofNat l.length)) (.i (decide ((out_.length+[pair.mk (l.getD t10.toNat default) (t8.getD t10.toNat default)].length)*56≤zdn)) (.h (l,(),t8,t9,(IntKind.i64.wrap (t10+1)),()) ((out_++[pair.mk (l.getD t10.toNat default) (t8.getD t10.toNat default)]),())) .d) .d) .d) (.k out_)
def zqY (x:ttTrelationzip0) (y:ttTrelationzip1):Wy ttTrelationzip0 ttTrelationzip1 (List pair):=zCa x.1 x.2.2.1 x.2.2.2.1 x.2.2.2.2.1 y.1
def zCl (n:Nat) (l:List Column) (t8:List Value) (t9:Int) (t10:Int) (out_:List pair):Bool×List pair:=zY (zqY) default n (l,(),t8,t9,t10,()) (out_,())
def zu7 (r:List pair):LTree ty:=.done (.exit 0) [.own 104] [.arr 147 r false]
def zvX:LL ty ttTrelationzip0:=za (lSl 67) (za (lOwn 104) (za (lSl 40) (za (lInt .i64) (za (lInt .i64) zG))))
def zvz:BL ty ttTrelationzip1:=bArr 147 false (bNil)
def zuu (x:ttTrelationzip0) (y:ttTrelationzip1):Nat:=(x.1.length+x.2.2.1.length+Int.toNat x.2.2.2.1+Int.toNat x.2.2.2.2.1+y.1.length+1000)
def zvT:Cx ty:=mkCx base 26 [] [] [(3,[(0,.keep),(5,.own 147),(8,.keep),(9,.keep),(10,.keep)])] [(3,1,[(5,.keep)])] [(3,spW zvX zvz (zqY) default zu7 zuu)] []
theorem zA9:zX zvT (lp (body Tryz.f105) 0):=zN (id:=3) (V:=zvX) (B:=zvz) (W:=zqY) (z:=default) (tr:=zu7) (m:=zuu)
def zxa (l:List Column) (row:List Value):Wy0 (List pair):=.bn (zCl (l.length+row.length+(Int.ofNat row.length).toNat +Int.toNat 0+0+1000) l row (Int.ofNat row.length) 0 []) fun r0=>.k r0
def zuP (l:List Column) (row:List Value):Bool×List pair:=(zxa l row).fin default
def zuM (r:List pair):ARes ty:=⟨[.own 147 r],[]⟩
def zxt:AL base (List Column×List Value×Unit):=zf (zg (vSl 67)) (zf (zg (vSl 40)) aNil)
def ztE:Ab.Spec ty:=zl zxt fun x=>((zuP x.1 x.2.1).1,zuM (zuP x.1 x.2.1).2)
theorem zz0:Sound Tryz.prog base 105 ztE:=
 zt (cx':=zvT) zD zo zB (zu trivial) Tryz.call105 Tryz.func105 (c:=body Tryz.f105) (by kernel_rfl) (zh (l:=[lp (body Tryz.f105) 0]) (by kernel_rfl) ⟨zA9,trivial⟩) (sg:=⟨[.own 147],[]⟩) (A:=zxt) (res:=zuM) (W:=fun x=>zxa x.1 x.2.1) (z:=default)
abbrev ttTslicesIndexFuncLrelationpairrelationpairfi0:=List pair×Unit×Int×Int×Unit
def ziI (s:List pair) (t7:Int) (t8:Int):Wy ttTslicesIndexFuncLrelationpairrelationpairfi0 (Unit) (Int⊕Unit):=.i (decide (t8<t7)) (.i (decide (0≤t8)&&decide (t8<Int.ofNat s.length)) (.bn (zpn (s.getD t8.toNat default)) fun r0=>.i (r0) (.k (.inl t8)) (.h (s,(),t7,(IntKind.i64.wrap (t8+1)),()) ())) .d) (.k (.inr ()))
def zcm (x:ttTslicesIndexFuncLrelationpairrelationpairfi0) (y:Unit):Wy ttTslicesIndexFuncLrelationpairrelationpairfi0 (Unit) (Int⊕Unit):=ziI x.1 x.2.2.1 x.2.2.2.1
def ziH (n:Nat) (s:List pair) (t7:Int) (t8:Int):Bool×(Int⊕Unit):=zY (zcm) (.inl default) n (s,(),t7,t8,()) ()
def zea (r:Int⊕Unit):LTree ty:=.ite (isL r) (.done .ret [.lit (.int .i64 (getL r))] []) (.done (.exit 0) [] [])
def zem:LL ty ttTslicesIndexFuncLrelationpairrelationpairfi0:=za (lSl 147) (za (lFn 106 (zG)) (za (lInt .i64) (za (lInt .i64) zG)))
def zet:BL ty (Unit):=bNil
def zee (x:ttTslicesIndexFuncLrelationpairrelationpairfi0) (y:Unit):Nat:=(x.1.length+Int.toNat x.2.2.1+Int.toNat x.2.2.2.1+1000)
def zey:Cx ty:=mkCx base 19 [(106,zik)] [] [(2,[(0,.keep),(1,.keep),(7,.keep),(8,.keep)])] [(2,1,[]),(2,0,[(4,.keep)])] [(2,spW zem zet (zcm) (.inl default) zea zee)] []
theorem ziy:zX zey (lp (body Tryz.f135) 0):=zN (id:=2) (V:=zem) (B:=zet) (W:=zcm) (z:=.inl default) (tr:=zea) (m:=zee)
def zeF (s:List pair):Wy0 (Int):=.bn (ziH (s.length+(Int.ofNat s.length).toNat +Int.toNat 0+1000) s (Int.ofNat s.length) 0) fun r2=>.i (isL r2) (.k (getL r2)) (.k (-1:Int))
def zcH (s:List pair):Bool×Int:=(zeF s).fin default
def zec (r:Int):ARes ty:=⟨[.pure (.lit (.int .i64 r))],[]⟩
def zeS:AL base (List pair×Unit×Unit):=zf (zg (vSl 147)) (zf (zg (vFn 106 vNil)) aNil)
def zd2:Ab.Spec ty:=zl zeS fun x=>((zcH x.1).1,zec (zcH x.1).2)
theorem zh2:Sound Tryz.prog base 135 zd2:=
 zt (cx':=zey) zD zo zB (zu ⟨zkj,trivial⟩) Tryz.call135 Tryz.func135 (c:=body Tryz.f135) (by kernel_rfl) (zh (l:=[lp (body Tryz.f135) 0]) (by kernel_rfl) ⟨ziy,trivial⟩) (sg:=⟨[.pure],[]⟩) (A:=zeS) (res:=zec) (W:=fun x=>zeF x.1) (z:=default)
def zie:Cx ty:=mkCx base 9 [(106,zik),(135,zd2)] [] [] [] [] []
def zd6 (s:List pair):Wy0 (Bool):=.bn (zcH s) fun r0=>.k (decide (r0≥0))
def zcr (s:List pair):Bool×Bool:=(zd6 s).fin default
def zdG (r:Bool):ARes ty:=⟨[.pure (.lit (.bool r))],[]⟩
def zd7:AL base (List pair×Unit×Unit):=zf (zg (vSl 147)) (zf (zg (vFn 106 vNil)) aNil)
def zdA:Ab.Spec ty:=zl zd7 fun x=>((zcr x.1).1,zdG (zcr x.1).2)
theorem zhG:Sound Tryz.prog base 104 zdA:=
 zt (cx':=zie) zD zo zB (zu ⟨zkj,zh2,trivial⟩) Tryz.call104 Tryz.func104 (c:=body Tryz.f104) (by kernel_rfl) (zh (l:=[]) (by kernel_rfl) trivial) (sg:=⟨[.pure],[]⟩) (A:=zd7) (res:=zdG) (W:=fun x=>zd6 x.1) (z:=default)
def zBb:Cx ty:=mkCx base 17 [(104,zdA),(105,ztE),(106,zik)] [] [] [] [] []
def zvE (l:List Column) (row:List Value):Wy0 (Bool):=.i (Int.ofNat l.length==Int.ofNat row.length) (.bn (zuP l row) fun r1=>.bn (zcr r1) fun r0=>.k (!r0)) (.k false)
def zs7 (l:List Column) (row:List Value):Bool×Bool:=(zvE l row).fin default
def ztO (r:Bool):ARes ty:=⟨[.pure (.lit (.bool r))],[]⟩
def zv9:AL base (List Column×List Value×Unit):=zf (zg (vSl 67)) (zf (zg (vSl 40)) aNil)
def zsv:Ab.Spec ty:=zl zv9 fun x=>((zs7 x.1 x.2.1).1,ztO (zs7 x.1 x.2.1).2)
theorem zzj:Sound Tryz.prog base 68 zsv:=
 zt (cx':=zBb) zD zo zB (zu ⟨zhG,zz0,zkj,trivial⟩) Tryz.call68 Tryz.func68 (c:=body Tryz.f68) (by kernel_rfl) (zh (l:=[]) (by kernel_rfl) trivial) (sg:=⟨[.pure],[]⟩) (A:=zv9) (res:=ztO) (W:=fun x=>zvE x.1 x.2.1) (z:=default)
def zCW:Cx ty:=mkCx base 2 [] [] [] [] [] []
def zy2:Wy0 (List ByteArray):=.k [ByteArray.mk #[(73:UInt8),(78:UInt8),(84:UInt8),(69:UInt8),(71:UInt8),(69:UInt8),(82:UInt8)],ByteArray.mk #[(84:UInt8),(69:UInt8),(88:UInt8),(84:UInt8)],ByteArray.mk #[(66:UInt8),(79:UInt8),(79:UInt8),(76:UInt8),(69:UInt8),(65:UInt8),(78:UInt8)]]
def zsk:Bool×List ByteArray:=(zy2).fin default
def zv4 (r:List ByteArray):ARes ty:=⟨[.own 9 r],[]⟩
def zyN:AL base (Unit):=aNil
def zu6:Ab.Spec ty:=zl zyN fun x=>((zsk ).1,zv4 (zsk ).2)
theorem zAE:Sound Tryz.prog base 134 zu6:=
 zt (cx':=zCW) zD zo zB (zu trivial) Tryz.call134 Tryz.func134 (c:=body Tryz.f134) (by kernel_rfl) (zh (l:=[]) (by kernel_rfl) trivial) (sg:=⟨[.own 9],[]⟩) (A:=zyN) (res:=zv4) (W:=fun x=>zy2 ) (z:=default)
def zAD:Cx ty:=mkCx base 13 [(134,zu6)] [] [] [] [] []
def zu0 (kind:Int):Wy0 (ByteArray):=.i (decide (kind<0)) (.k (ByteArray.mk #[])) (.i (decide (kind>2)) (.k (ByteArray.mk #[])) (.i (decide (0≤kind)&&decide (kind<Int.ofNat zsk.2.length)) (.k (zsk.2.getD kind.toNat default)) .d))
def zrN (kind:Int):Bool×ByteArray:=(zu0 kind).fin default
def zsO (r:ByteArray):ARes ty:=⟨[.pure (.lit (.string r))],[]⟩
def zuo:AL base (Int×Unit):=zf (zg (vInt .i64)) aNil
def zrq:Ab.Spec ty:=zl zuo fun x=>((zrN x.1).1,zsO (zrN x.1).2)
theorem zyh:Sound Tryz.prog base 103 zrq:=
 zt (cx':=zAD) zD zo zB (zu ⟨zAE,trivial⟩) Tryz.call103 Tryz.func103 (c:=body Tryz.f103) (by kernel_rfl) (zh (l:=[]) (by kernel_rfl) trivial) (sg:=⟨[.pure],[]⟩) (A:=zuo) (res:=zsO) (W:=fun x=>zu0 x.1) (z:=default)
def zs2:Cx ty:=mkCx base 7 [(103,zrq)] [] [] [] [] []
def zlZ (c:Column):Wy0 (Bool):=.bn (zrN c.Type_) fun r0=>.k (r0.toList==(ByteArray.mk #[]).toList)
def zjv (c:Column):Bool×Bool:=(zlZ c).fin default
def zkT (r:Bool):ARes ty:=⟨[.pure (.lit (.bool r))],[]⟩
def zlW:AL base (Column×Unit):=zf (zg (vAgg 67)) aNil
def ze5:Ab.Spec ty:=zl zlW fun x=>((zjv x.1).1,zkT (zjv x.1).2)
theorem zhh:Sound Tryz.prog base 102 ze5:=
 zt (cx':=zs2) zD zo zB (zu ⟨zyh,trivial⟩) Tryz.call102 Tryz.func102 (c:=body Tryz.f102) (by kernel_rfl) (zh (l:=[]) (by kernel_rfl) trivial) (sg:=⟨[.pure],[]⟩) (A:=zlW) (res:=zkT) (W:=fun x=>zlZ x.1) (z:=default)
abbrev ttTslicesIndexFuncLapiColumnapiColumnvc0:=List Column×Unit×Int×Int×Unit
def zj6 (s:List Column) (t7:Int) (t8:Int):Wy ttTslicesIndexFuncLapiColumnapiColumnvc0 (Unit) (Int⊕Unit):=.i (decide (t8<t7)) (.i (decide (0≤t8)&&decide (t8<Int.ofNat s.length)) (.bn (zjv (s.getD t8.toNat default)) fun r0=>.i (r0) (.k (.inl t8)) (.h (s,(),t7,(IntKind.i64.wrap (t8+1)),()) ())) .d) (.k (.inr ()))
def zc4 (x:ttTslicesIndexFuncLapiColumnapiColumnvc0) (y:Unit):Wy ttTslicesIndexFuncLapiColumnapiColumnvc0 (Unit) (Int⊕Unit):=zj6 x.1 x.2.2.1 x.2.2.2.1
def zj1 (n:Nat) (s:List Column) (t7:Int) (t8:Int):Bool×(Int⊕Unit):=zY (zc4) (.inl default) n (s,(),t7,t8,()) ()
def zf1 (r:Int⊕Unit):LTree ty:=.ite (isL r) (.done .ret [.lit (.int .i64 (getL r))] []) (.done (.exit 0) [] [])
def zgc:LL ty ttTslicesIndexFuncLapiColumnapiColumnvc0:=za (lSl 67) (za (lFn 102 (zG)) (za (lInt .i64) (za (lInt .i64) zG)))
def zf5:BL ty (Unit):=bNil
def zf0 (x:ttTslicesIndexFuncLapiColumnapiColumnvc0) (y:Unit):Nat:=(x.1.length+Int.toNat x.2.2.1+Int.toNat x.2.2.2.1+1000)
def zgj:Cx ty:=mkCx base 19 [(102,ze5)] [] [(2,[(0,.keep),(1,.keep),(7,.keep),(8,.keep)])] [(2,1,[]),(2,0,[(4,.keep)])] [(2,spW zgc zf5 (zc4) (.inl default) zf1 zf0)] []
theorem zjM:zX zgj (lp (body Tryz.f133) 0):=zN (id:=2) (V:=zgc) (B:=zf5) (W:=zc4) (z:=.inl default) (tr:=zf1) (m:=zf0)
def zgB (s:List Column):Wy0 (Int):=.bn (zj1 (s.length+(Int.ofNat s.length).toNat +Int.toNat 0+1000) s (Int.ofNat s.length) 0) fun r2=>.i (isL r2) (.k (getL r2)) (.k (-1:Int))
def zdD (s:List Column):Bool×Int:=(zgB s).fin default
def zfZ (r:Int):ARes ty:=⟨[.pure (.lit (.int .i64 r))],[]⟩
def zgx:AL base (List Column×Unit×Unit):=zf (zg (vSl 67)) (zf (zg (vFn 102 vNil)) aNil)
def zfA:Ab.Spec ty:=zl zgx fun x=>((zdD x.1).1,zfZ (zdD x.1).2)
theorem zjn:Sound Tryz.prog base 133 zfA:=
 zt (cx':=zgj) zD zo zB (zu ⟨zhh,trivial⟩) Tryz.call133 Tryz.func133 (c:=body Tryz.f133) (by kernel_rfl) (zh (l:=[lp (body Tryz.f133) 0]) (by kernel_rfl) ⟨zjM,trivial⟩) (sg:=⟨[.pure],[]⟩) (A:=zgx) (res:=zfZ) (W:=fun x=>zgB x.1) (z:=default)
def zjp:Cx ty:=mkCx base 9 [(102,ze5),(133,zfA)] [] [] [] [] []
def zfs (s:List Column):Wy0 (Bool):=.bn (zdD s) fun r0=>.k (decide (r0≥0))
def zcX (s:List Column):Bool×Bool:=(zfs s).fin default
def ze2 (r:Bool):ARes ty:=⟨[.pure (.lit (.bool r))],[]⟩
def zfr:AL base (List Column×Unit×Unit):=zf (zg (vSl 67)) (zf (zg (vFn 102 vNil)) aNil)
def zeJ:Ab.Spec ty:=zl zfr fun x=>((zcX x.1).1,ze2 (zcX x.1).2)
theorem ziM:Sound Tryz.prog base 101 zeJ:=
 zt (cx':=zjp) zD zo zB (zu ⟨zhh,zjn,trivial⟩) Tryz.call101 Tryz.func101 (c:=body Tryz.f101) (by kernel_rfl) (zh (l:=[]) (by kernel_rfl) trivial) (sg:=⟨[.pure],[]⟩) (A:=zfr) (res:=ze2) (W:=fun x=>zfs x.1) (z:=default)
def zui:Cx ty:=mkCx base 11 [(101,zeJ),(102,ze5)] [] [] [] [] []
def znP (l:List Column):Wy0 (Bool):=.i (decide (Int.ofNat l.length≤16)) (.bn (zcX l) fun r0=>.k (!r0)) (.k false)
def zkH (l:List Column):Bool×Bool:=(znP l).fin default
def zmH (r:Bool):ARes ty:=⟨[.pure (.lit (.bool r))],[]⟩
def znR:AL base (List Column×Unit):=zf (zg (vSl 67)) aNil
def zlT:Ab.Spec ty:=zl znR fun x=>((zkH x.1).1,zmH (zkH x.1).2)
theorem zsH:Sound Tryz.prog base 67 zlT:=
 zt (cx':=zui) zD zo zB (zu ⟨ziM,zhh,trivial⟩) Tryz.call67 Tryz.func67 (c:=body Tryz.f67) (by kernel_rfl) (zh (l:=[]) (by kernel_rfl) trivial) (sg:=⟨[.pure],[]⟩) (A:=znR) (res:=zmH) (W:=fun x=>znP x.1) (z:=default)
def zcI:Cx ty:={ base with nt:=8 }
def zfG (s:List Column):Bool×List Column:=(decide (s.length*24≤zdn),s)
def zhe:Ab.Spec ty:=zl (cx:=base) (zf (zg (vSl 67)) aNil) fun x=>((zfG x.1).1,⟨[.own 67 (zfG x.1).2],[]⟩)
theorem zl9:zgE zcI Tryz.f75 (body Tryz.f75) ⟨[.own 67],[]⟩ [.pure (.lit (.slice none 0 0))]=some ⟨[.own 67 []],[]⟩:=by kernel_rfl
theorem zk5 (p:Addr) (c:Nat):zgE zcI Tryz.f75 (body Tryz.f75) ⟨[.own 67],[]⟩ [.pure (.lit (.slice (some p) 0 c))]=some ⟨[.own 67 []],[]⟩:=by kernel_rfl
theorem zlI (l:List Column):zgE zcI Tryz.f75 (body Tryz.f75) ⟨[.own 67],[]⟩ [.pure (.sl 67 l)]=bif !l.isEmpty then bif decide ((([]:List (ty 67)).length+l.length)*24≤zdn) then some ⟨[.own 67 l],[]⟩ else none else none:=by kernel_rfl
theorem zk3:Sound Tryz.prog base 75 zhe:=
 zwx (cx':=zcI) (bytes:=24) zD zo ⟨⟨rfl,rfl,rfl,rfl,rfl,rfl⟩,rfl⟩ (fun g s h=>by cases h) Tryz.call75 Tryz.func75 (c:=body Tryz.f75) (by kernel_rfl) (zh (l:=[]) (by kernel_rfl) trivial) zl9 zk5 zlI (by kernel_rfl)
def zdZ:Cx ty:={ base with nt:=8 }
def zhz (s:List Row):Bool×List Row:=(decide (s.length*48≤zdn),s)
def ziG:Ab.Spec ty:=zl (cx:=base) (zf (zg (vSl 38)) aNil) fun x=>((zhz x.1).1,⟨[.own 38 (zhz x.1).2],[]⟩)
theorem zo2:zgE zdZ Tryz.f71 (body Tryz.f71) ⟨[.own 38],[]⟩ [.pure (.lit (.slice none 0 0))]=some ⟨[.own 38 []],[]⟩:=by kernel_rfl
theorem znD (p:Addr) (c:Nat):zgE zdZ Tryz.f71 (body Tryz.f71) ⟨[.own 38],[]⟩ [.pure (.lit (.slice (some p) 0 c))]=some ⟨[.own 38 []],[]⟩:=by kernel_rfl
theorem zoi (l:List Row):zgE zdZ Tryz.f71 (body Tryz.f71) ⟨[.own 38],[]⟩ [.pure (.sl 38 l)]=bif !l.isEmpty then bif decide ((([]:List (ty 38)).length+l.length)*48≤zdn) then some ⟨[.own 38 l],[]⟩ else none else none:=by kernel_rfl
theorem znw:Sound Tryz.prog base 71 ziG:=
 zwx (cx':=zdZ) (bytes:=48) zD zo ⟨⟨rfl,rfl,rfl,rfl,rfl,rfl⟩,rfl⟩ (fun g s h=>by cases h) Tryz.call71 Tryz.func71 (c:=body Tryz.f71) (by kernel_rfl) (zh (l:=[]) (by kernel_rfl) trivial) zo2 znD zoi (by kernel_rfl)
end Go.Proofs.YtddkaehkimnklaaGreatDoor
end
