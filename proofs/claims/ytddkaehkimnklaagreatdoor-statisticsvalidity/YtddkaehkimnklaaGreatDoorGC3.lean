/- Texts of this claim, joined (the program, its functions in plain words, and what they compute). -/
import Derived.Test.YtddkaehkimnklaaGreatDoorGC1
import Derived.Test.YtddkaehkimnklaaGreatDoorGA3
import Derived.Test.YtddkaehkimnklaaGreatDoorGC2
set_option autoImplicit false
set_option linter.unusedVariables false
set_option linter.unusedSectionVars false
set_option linter.unusedSimpArgs false
set_option maxRecDepth 1000000
set_option maxHeartbeats 0
noncomputable section
namespace Go.Proofs.YtddkaehkimnklaaGreatDoor
open Go Go.Ab
abbrev ttTannotationValid0:=List Term×Unit×List Term×Int×Int×List Factor×Int×Int×Unit
abbrev ttTannotationValid1:=Bool⊕(List Term×List Term×Int×Int)
abbrev ttTannotationValid2:=List Term×List Term×Int×Int×Unit
def zy3 (zq:Atom→Bool×Bool) (a:List Term) (t10:List Term) (t11:Int) (t12:Int) (t40:List Factor) (t41:Int) (t42:Int) (t:Term):Wy ttTannotationValid0 (Term×Unit) ttTannotationValid1:=.i (decide (t42<t41)) (.i (decide (0≤t42)&&decide (t42<Int.ofNat t40.length)) (.i (decide ((t40.getD t42.toNat default).Exp<1)) (.k (.inl false)) (.bn (ziK (Atom.mk (t40.getD t42.toNat default).Atom.Kind (t40.getD t42.toNat default).Atom.Row (t40.getD t42.toNat default).Atom.Args (t40.getD t42.toNat default).Atom.Func (t40.getD t42.toNat default).Atom.Items (t40.getD t42.toNat default).Atom.Op (t40.getD t42.toNat default).Atom.Bound)) fun r6=>.i (r6) (.i ((t40.getD t42.toNat default).Exp != 1) (.k (.inl false)) (.i (decide (t42>0)) (.i (decide (0≤IntKind.i64.wrap (t42 - 1))&&decide (IntKind.i64.wrap (t42 - 1)<Int.ofNat t.Factors.length)) (.bn (zj4 (Atom.mk (t.Factors.getD (IntKind.i64.wrap (t42 - 1)).toNat default).Atom.Kind (t.Factors.getD (IntKind.i64.wrap (t42 - 1)).toNat default).Atom.Row (t.Factors.getD (IntKind.i64.wrap (t42 - 1)).toNat default).Atom.Args (t.Factors.getD (IntKind.i64.wrap (t42 - 1)).toNat default).Atom.Func (t.Factors.getD (IntKind.i64.wrap (t42 - 1)).toNat default).Atom.Items (t.Factors.getD (IntKind.i64.wrap (t42 - 1)).toNat default).Atom.Op (t.Factors.getD (IntKind.i64.wrap (t42 - 1)).toNat default).Atom.Bound) (Atom.mk (t40.getD t42.toNat default).Atom.Kind (t40.getD t42.toNat default).Atom.Row (t40.getD t42.toNat default).Atom.Args (t40.getD t42.toNat default).Atom.Func (t40.getD t42.toNat default).Atom.Items (t40.getD t42.toNat default).Atom.Op (t40.getD t42.toNat default).Atom.Bound)) fun r1=>.i (decide (r1≥0)) (.k (.inl false)) (.bn (zq (Atom.mk (t40.getD t42.toNat default).Atom.Kind (t40.getD t42.toNat default).Atom.Row (t40.getD t42.toNat default).Atom.Args (t40.getD t42.toNat default).Atom.Func (t40.getD t42.toNat default).Atom.Items (t40.getD t42.toNat default).Atom.Op (t40.getD t42.toNat default).Atom.Bound)) fun r0=>.i (!r0) (.k (.inl false)) (.h (a,(),t10,t11,t12,t40,t41,(IntKind.i64.wrap (t42+1)),()) (t,())))) .d) (.bn (zq (Atom.mk (t40.getD t42.toNat default).Atom.Kind (t40.getD t42.toNat default).Atom.Row (t40.getD t42.toNat default).Atom.Args (t40.getD t42.toNat default).Atom.Func (t40.getD t42.toNat default).Atom.Items (t40.getD t42.toNat default).Atom.Op (t40.getD t42.toNat default).Atom.Bound)) fun r2=>.i (!r2) (.k (.inl false)) (.h (a,(),t10,t11,t12,t40,t41,(IntKind.i64.wrap (t42+1)),()) (t,()))))) (.i (decide (t42>0)) (.i (decide (0≤IntKind.i64.wrap (t42 - 1))&&decide (IntKind.i64.wrap (t42 - 1)<Int.ofNat t.Factors.length)) (.bn (zj4 (Atom.mk (t.Factors.getD (IntKind.i64.wrap (t42 - 1)).toNat default).Atom.Kind (t.Factors.getD (IntKind.i64.wrap (t42 - 1)).toNat default).Atom.Row (t.Factors.getD (IntKind.i64.wrap (t42 - 1)).toNat default).Atom.Args (t.Factors.getD (IntKind.i64.wrap (t42 - 1)).toNat default).Atom.Func (t.Factors.getD (IntKind.i64.wrap (t42 - 1)).toNat default).Atom.Items (t.Factors.getD (IntKind.i64.wrap (t42 - 1)).toNat default).Atom.Op (t.Factors.getD (IntKind.i64.wrap (t42 - 1)).toNat default).Atom.Bound) (Atom.mk (t40.getD t42.toNat default).Atom.Kind (t40.getD t42.toNat default).Atom.Row (t40.getD t42.toNat default).Atom.Args (t40.getD t42.toNat default).Atom.Func (t40.getD t42.toNat default).Atom.Items (t40.getD t42.toNat default).Atom.Op (t40.getD t42.toNat default).Atom.Bound)) fun r4=>.i (decide (r4≥0)) (.k (.inl false)) (.bn (zq (Atom.mk (t40.getD t42.toNat default).Atom.Kind (t40.getD t42.toNat default).Atom.Row (t40.getD t42.toNat default).Atom.Args (t40.getD t42.toNat default).Atom.Func (t40.getD t42.toNat default).Atom.Items (t40.getD t42.toNat default).Atom.Op (t40.getD t42.toNat default).Atom.Bound)) fun r3=>.i (!r3) (.k (.inl false)) (.h (a,(),t10,t11,t12,t40,t41,(IntKind.i64.wrap (t42+1)),()) (t,())))) .d) (.bn (zq (Atom.mk (t40.getD t42.toNat default).Atom.Kind (t40.getD t42.toNat default).Atom.Row (t40.getD t42.toNat default).Atom.Args (t40.getD t42.toNat default).Atom.Func (t40.getD t42.toNat default).Atom.Items (t40.getD t42.toNat default).Atom.Op (t40.getD t42.toNat default).Atom.Bound)) fun r5=>.i (!r5) (.k (.inl false)) (.h (a,(),t10,t11,t12,t40,t41,(IntKind.i64.wrap (t42+1)),()) (t,())))))) .d) (.k (.inr (a,t10,t11,t12)))
def zlG (zq:Atom→Bool×Bool) (x:ttTannotationValid0) (y:Term×Unit):Wy ttTannotationValid0 (Term×Unit) ttTannotationValid1:=zy3 zq x.1 x.2.2.1 x.2.2.2.1 x.2.2.2.2.1 x.2.2.2.2.2.1 x.2.2.2.2.2.2.1 x.2.2.2.2.2.2.2.1 y.1
def zqO (zq:Atom→Bool×Bool) (n:Nat) (a:List Term) (t10:List Term) (t11:Int) (t12:Int) (t40:List Factor) (t41:Int) (t42:Int) (t:Term):Bool×ttTannotationValid1:=zP (zlG zq) (.inl default) n (a,(),t10,t11,t12,t40,t41,t42,()) (t,())
def zpB (r:ttTannotationValid1):LTree ty:=.ite (isL r) (.done .ret [.lit (.bool (getL r))] []) (.done (.exit 2) [.sl 152 (getR r).1,.sl 152 (getR r).2.1,.lit (.int .i64 (getR r).2.2.1),.lit (.int .i64 (getR r).2.2.2)] [])
def zqf:LL ty ttTannotationValid0:=za (lSl 152) (za (zbW 340 0) (za (lSl 152) (za (lInt .i64) (za (lInt .i64) (za (lSl 160) (za (lInt .i64) (za (lInt .i64) zD)))))))
def zq7:BL ty (Term×Unit):=bBox (zdP (fun x=>(⟨x.1,x.2.1⟩:Term)) (fun x=>(x.Coeff,x.Factors,())) (fun _=>rfl) (za (lInt .i64) (za (lSl 160) zD))) false (bNil)
def zy8 (zq:Atom→Bool×Bool) (a:List Term) (t10:List Term) (t11:Int) (t12:Int):Wy ttTannotationValid2 (Unit) (Bool⊕Unit):=.i (decide (t12<t11)) (.i (decide (0≤t12)&&decide (t12<Int.ofNat t10.length)) (.i (decide ((t10.getD t12.toNat default).Coeff<1)) (.k (.inl false)) (.i (decide ((t10.getD t12.toNat default).Coeff>1152921504606846976)) (.k (.inl false)) (.i (decide (t12>0)) (.i (decide (0≤IntKind.i64.wrap (t12 - 1))&&decide (IntKind.i64.wrap (t12 - 1)<Int.ofNat a.length)) (.bn (zoI (a.getD (IntKind.i64.wrap (t12 - 1)).toNat default) (t10.getD t12.toNat default)) fun r15=>.i (decide (r15≥0)) (.k (.inl false)) (.bn (zqO zq (a.length+t10.length+t11.toNat +t12.toNat +(t10.getD t12.toNat default).Factors.length+(Int.ofNat (t10.getD t12.toNat default).Factors.length).toNat +Int.toNat 0+(t10.getD t12.toNat default).Factors.length+1000) a t10 t11 t12 (t10.getD t12.toNat default).Factors (Int.ofNat (t10.getD t12.toNat default).Factors.length) 0 (t10.getD t12.toNat default)) fun r14=>.i (isL r14) (.k (.inl (getL r14))) (.h ((getR r14).1,(getR r14).2.1,(getR r14).2.2.1,(IntKind.i64.wrap ((getR r14).2.2.2+1)),()) ()))) .d) (.bn (zqO zq (a.length+t10.length+t11.toNat +t12.toNat +(t10.getD t12.toNat default).Factors.length+(Int.ofNat (t10.getD t12.toNat default).Factors.length).toNat +Int.toNat 0+(t10.getD t12.toNat default).Factors.length+1000) a t10 t11 t12 (t10.getD t12.toNat default).Factors (Int.ofNat (t10.getD t12.toNat default).Factors.length) 0 (t10.getD t12.toNat default)) fun r16=>.i (isL r16) (.k (.inl (getL r16))) (.h ((getR r16).1,(getR r16).2.1,(getR r16).2.2.1,(IntKind.i64.wrap ((getR r16).2.2.2+1)),()) ()))))) .d) (.k (.inr ()))
def zk9 (zq:Atom→Bool×Bool) (x:ttTannotationValid2) (y:Unit):Wy ttTannotationValid2 (Unit) (Bool⊕Unit):=zy8 zq x.1 x.2.1 x.2.2.1 x.2.2.2.1
def zy5 (zq:Atom→Bool×Bool) (n:Nat) (a:List Term) (t10:List Term) (t11:Int) (t12:Int):Bool×(Bool⊕Unit):=zP (zk9 zq) (.inl default) n (a,t10,t11,t12,()) ()
def zpm (r:Bool⊕Unit):LTree ty:=.ite (isL r) (.done .ret [.lit (.bool (getL r))] []) (.done (.exit 0) [] [])
def zqw:LL ty ttTannotationValid2:=za (lSl 152) (za (lSl 152) (za (lInt .i64) (za (lInt .i64) zD)))
def zqs:BL ty (Unit):=bNil
def zpL (x:ttTannotationValid0) (y:Term×Unit):Nat:=(x.1.length+x.2.2.1.length+Int.toNat x.2.2.2.1+Int.toNat x.2.2.2.2.1+x.2.2.2.2.2.1.length+Int.toNat x.2.2.2.2.2.2.1+Int.toNat x.2.2.2.2.2.2.2.1+y.1.Factors.length+1000)
def zpo (x:ttTannotationValid2) (y:Unit):Nat:=(x.1.length+x.2.1.length+Int.toNat x.2.2.1+Int.toNat x.2.2.2.1+1000)
def zlj (zq:Atom→Bool×Bool):Cx ty:=mkCx base 85 [(107,zpI),(108,annotation_compareLists_spec),(109,ziX),(110,annotation_compareAtoms_spec),(111,(zic zq))] [] [(4,[(0,.keep),(10,.keep),(11,.keep),(12,.keep)]),(9,[(0,.keep),(4,.keep),(10,.keep),(11,.keep),(12,.keep),(40,.keep),(41,.keep),(42,.keep)])] [(4,1,[]),(4,0,[(2,.keep)]),(9,3,[(0,.keep),(10,.keep),(11,.keep),(12,.keep)]),(9,0,[(2,.keep)])] [(9,spW zqf zq7 (zlG zq) (.inl default) zpB zpL),(4,spW zqw zqs (zk9 zq) (.inl default) zpm zpo)] []
theorem zxW (zq:Atom→Bool×Bool):zW (zlj zq) (lp (body Tryz.f69) 1):=zK (id:=9) (V:=zqf) (B:=zq7) (W:=zlG zq) (z:=.inl default) (tr:=zpB) (m:=zpL)
theorem zx3 (zq:Atom→Bool×Bool):zW (zlj zq) (lp (body Tryz.f69) 0):=zK (id:=4) (V:=zqw) (B:=zqs) (W:=zk9 zq) (z:=.inl default) (tr:=zpm) (m:=zpo)
def zsd (zq:Atom→Bool×Bool) (a:List Term):Wy0 (Bool):=.bn (zo6 a) fun r21=>.i (!r21) (.k false) (.bn (zy5 zq (a.length+a.length+(Int.ofNat a.length).toNat +Int.toNat 0+1000) a a (Int.ofNat a.length) 0) fun r20=>.i (isL r20) (.k (getL r20)) (.k true))
def ztC (zq:Atom→Bool×Bool) (a:List Term):Bool×Bool:=(zsd zq a).fin default
theorem zvO (zq:Atom→Bool×Bool) (zwd:Sound Tryz.prog base 111 (zic zq)):Sound Tryz.prog base 69 (zfq (ztC zq)):=
 zr (cx':=(zlj zq)) zF zm zB (zu ⟨zwT,zsj,zl7,zso,zwd,trivial⟩) Tryz.call69 Tryz.func69 (c:=body Tryz.f69) (by kernel_rfl) (zh (l:=[lp (body Tryz.f69) 0,lp (body Tryz.f69) 1]) (by kernel_rfl) ⟨zx3 zq,zxW zq,trivial⟩) (sg:=⟨[.pure],[]⟩) (A:=ztY) (res:=zrH) (W:=fun x=>zsd zq x.1) (z:=default)
def zAN:Cx ty:=mkCx base 9 [(145,annotation_Compare_spec)] [] [] [] [] []
def zt2 (a:List Term) (b:List Term):Wy0 (Bool):=.bn (ztx a b) fun r0=>.k (r0==0)
def zp5 (a:List Term) (b:List Term):Bool×Bool:=(zt2 a b).fin default
def zrJ (r:Bool):ARes ty:=⟨[.pure (.lit (.bool r))],[]⟩
def ztQ:AL base (List Term×List Term×Unit):=zf (zg (vSl 152)) (zf (zg (vSl 152)) aNil)
def zqS:Ab.Spec ty:=zk ztQ fun x=>((zp5 x.1 x.2.1).1,zrJ (zp5 x.1 x.2.1).2)
theorem zx4:Sound Tryz.prog base 151 zqS:=
 zr (cx':=zAN) zF zm zB (zu ⟨zwl,trivial⟩) Tryz.call151 Tryz.func151 (c:=body Tryz.f151) (by kernel_rfl) (zh (l:=[]) (by kernel_rfl) trivial) (sg:=⟨[.pure],[]⟩) (A:=ztQ) (res:=zrJ) (W:=fun x=>zt2 x.1 x.2.1) (z:=default)
def zv2:Cx ty:=mkCx base 27 [(83,zgY)] [] [] [] [] []
def zoL (w:Weighted) (p1:Value) (p2:Int):Wy0 (Bool):=.bn (zgH w.Value) fun r0=>.i (!r0) (.k true) (.i (w.Value.Kind != p1.Kind) (.k true) (.i (p2==0) (.k (w.Value.Int != 1)) (.k false)))
def zlr (w:Weighted) (p1:Value) (p2:Int):Bool×Bool:=(zoL w p1 p2).fin default
def zns (r:Bool):ARes ty:=⟨[.pure (.lit (.bool r))],[]⟩
def zoD:AL base (Weighted×Value×(Int×Unit)×Unit):=zf (zg (vAgg 182)) (zf (zg (zvr 40)) (zf (zg (vBox (zno (vInt .i64) vNil))) aNil))
def zgL:Ab.Spec ty:=zk zoD fun x=>((zlr x.1 x.2.1 x.2.2.1.1).1,zns (zlr x.1 x.2.1 x.2.2.1.1).2)
theorem ziq:Sound Tryz.prog base 202 zgL:=
 zr (cx':=zv2) zF zm zB (zu ⟨zhw,trivial⟩) Tryz.call202 Tryz.func202 (c:=body Tryz.f202) (by kernel_rfl) (zh (l:=[]) (by kernel_rfl) trivial) (sg:=⟨[.pure],[]⟩) (A:=zoD) (res:=zns) (W:=fun x=>zoL x.1 x.2.1 x.2.2.1.1) (z:=default)
abbrev ttTslicesIndexFuncLapiWeightedapiWeightedfi0:=List Weighted×(Value×(Int×Unit)×Unit)×Int×Int×Unit
def zjH (s:List Weighted) (f_0:Value) (f_1:Int) (t7:Int) (t8:Int):Wy ttTslicesIndexFuncLapiWeightedapiWeightedfi0 (Unit) (Int⊕Unit):=.i (decide (t8<t7)) (.i (decide (0≤t8)&&decide (t8<Int.ofNat s.length)) (.bn (zlr (s.getD t8.toNat default) f_0 f_1) fun r0=>.i (r0) (.k (.inl t8)) (.h (s,(f_0,(f_1,()),()),t7,(IntKind.i64.wrap (t8+1)),()) ())) .d) (.k (.inr ()))
def zcC (x:ttTslicesIndexFuncLapiWeightedapiWeightedfi0) (y:Unit):Wy ttTslicesIndexFuncLapiWeightedapiWeightedfi0 (Unit) (Int⊕Unit):=zjH x.1 x.2.1.1 x.2.1.2.1.1 x.2.2.1 x.2.2.2.1
def zjD (n:Nat) (s:List Weighted) (f_0:Value) (f_1:Int) (t7:Int) (t8:Int):Bool×(Int⊕Unit):=zP (zcC) (.inl default) n (s,(f_0,(f_1,()),()),t7,t8,()) ()
def zeF (r:Int⊕Unit):LTree ty:=.ite (isL r) (.done .ret [.lit (.int .i64 (getL r))] []) (.done (.exit 0) [] [])
def ze7:LL ty ttTslicesIndexFuncLapiWeightedapiWeightedfi0:=za (lSl 182) (za (lFn 202 (za (zBw (zdP (fun x=>(⟨x.1,x.2.1,x.2.2.1⟩:Value)) (fun x=>(x.Kind,x.Int,x.Text,())) (fun _=>rfl) (za (lInt .i64) (za (lInt .i64) (za lStr zD)))) 0) (za (zBw (za (lInt .i64) zD) 0) zD))) (za (lInt .i64) (za (lInt .i64) zD)))
def ze5:BL ty (Unit):=bNil
def zeU (x:ttTslicesIndexFuncLapiWeightedapiWeightedfi0) (y:Unit):Nat:=(x.1.length+Int.toNat x.2.1.2.1.1+Int.toNat x.2.2.1+Int.toNat x.2.2.2.1+1000)
def ze0:Cx ty:=mkCx base 19 [(202,zgL)] [] [(2,[(0,.keep),(1,.keep),(7,.keep),(8,.keep)])] [(2,1,[]),(2,0,[(4,.keep)])] [(2,spW ze7 ze5 (zcC) (.inl default) zeF zeU)] []
theorem zjf:zW ze0 (lp (body Tryz.f201) 0):=zK (id:=2) (V:=ze7) (B:=ze5) (W:=zcC) (z:=.inl default) (tr:=zeF) (m:=zeU)
def zfl (s:List Weighted) (f_0:Value) (f_1:Int):Wy0 (Int):=.bn (zjD (s.length+f_1.toNat +(Int.ofNat s.length).toNat +Int.toNat 0+1000) s f_0 f_1 (Int.ofNat s.length) 0) fun r2=>.i (isL r2) (.k (getL r2)) (.k (-1:Int))
def zcS (s:List Weighted) (f_0:Value) (f_1:Int):Bool×Int:=(zfl s f_0 f_1).fin default
def zeK (r:Int):ARes ty:=⟨[.pure (.lit (.int .i64 r))],[]⟩
def zfa:AL base (List Weighted×(Value×(Int×Unit)×Unit)×Unit):=zf (zg (vSl 182)) (zf (zg (vFn 202 (zno (zvr 40) (zno (vBox (zno (vInt .i64) vNil)) vNil)))) aNil)
def zeA:Ab.Spec ty:=zk zfa fun x=>((zcS x.1 x.2.1.1 x.2.1.2.1.1).1,zeK (zcS x.1 x.2.1.1 x.2.1.2.1.1).2)
theorem ziN:Sound Tryz.prog base 201 zeA:=
 zr (cx':=ze0) zF zm zB (zu ⟨ziq,trivial⟩) Tryz.call201 Tryz.func201 (c:=body Tryz.f201) (by kernel_rfl) (zh (l:=[lp (body Tryz.f201) 0]) (by kernel_rfl) ⟨zjf,trivial⟩) (sg:=⟨[.pure],[]⟩) (A:=zfa) (res:=zeK) (W:=fun x=>zfl x.1 x.2.1.1 x.2.1.2.1.1) (z:=default)
def ziU:Cx ty:=mkCx base 9 [(201,zeA),(202,zgL)] [] [] [] [] []
def zeq (s:List Weighted) (f_0:Value) (f_1:Int):Wy0 (Bool):=.bn (zcS s f_0 f_1) fun r0=>.k (decide (r0≥0))
def zbe (s:List Weighted) (f_0:Value) (f_1:Int):Bool×Bool:=(zeq s f_0 f_1).fin default
def zd8 (r:Bool):ARes ty:=⟨[.pure (.lit (.bool r))],[]⟩
def zey:AL base (List Weighted×(Value×(Int×Unit)×Unit)×Unit):=zf (zg (vSl 182)) (zf (zg (vFn 202 (zno (zvr 40) (zno (vBox (zno (vInt .i64) vNil)) vNil)))) aNil)
def zdZ:Ab.Spec ty:=zk zey fun x=>((zbe x.1 x.2.1.1 x.2.1.2.1.1).1,zd8 (zbe x.1 x.2.1.1 x.2.1.2.1.1).2)
theorem zid:Sound Tryz.prog base 155 zdZ:=
 zr (cx':=ziU) zF zm zB (zu ⟨ziN,ziq,trivial⟩) Tryz.call155 Tryz.func155 (c:=body Tryz.f155) (by kernel_rfl) (zh (l:=[]) (by kernel_rfl) trivial) (sg:=⟨[.pure],[]⟩) (A:=zey) (res:=zd8) (W:=fun x=>zeq x.1 x.2.1.1 x.2.1.2.1.1) (z:=default)
def zyl:Cx ty:=mkCx base 43 [(83,zgY),(155,zdZ),(202,zgL)] [] [] [] [] []
def zrQ (fn:Int) (items:List Weighted) (op:Int) (bound:Value):Wy0 (Bool):=.i (decide (fn<0)) (.k false) (.i (decide (fn>3)) (.k false) (.i (decide (op<5)) (.k false) (.i (decide (op>10)) (.k false) (.bn (zgH bound) fun r3=>.i (!r3) (.k false) (.i (fn==0) (.i (bound.Kind != 0) (.k false) (.bn (zbe items bound fn) fun r0=>.k (!r0))) (.i (fn==1) (.i (bound.Kind != 0) (.k false) (.bn (zbe items bound fn) fun r1=>.k (!r1))) (.bn (zbe items bound fn) fun r2=>.k (!r2))))))))
def zob (fn:Int) (items:List Weighted) (op:Int) (bound:Value):Bool×Bool:=(zrQ fn items op bound).fin default
def zpH (r:Bool):ARes ty:=⟨[.pure (.lit (.bool r))],[]⟩
def zrW:AL base (Int×List Weighted×Int×Value×Unit):=zf (zg (vInt .i64)) (zf (zg (vSl 182)) (zf (zg (vInt .i64)) (zf (zg (vAgg 40)) aNil)))
def zoH:Ab.Spec ty:=zk zrW fun x=>((zob x.1 x.2.1 x.2.2.1 x.2.2.2.1).1,zpH (zob x.1 x.2.1 x.2.2.1 x.2.2.2.1).2)
theorem zwu:Sound Tryz.prog base 158 zoH:=
 zr (cx':=zyl) zF zm zB (zu ⟨zhw,zid,ziq,trivial⟩) Tryz.call158 Tryz.func158 (c:=body Tryz.f158) (by kernel_rfl) (zh (l:=[]) (by kernel_rfl) trivial) (sg:=⟨[.pure],[]⟩) (A:=zrW) (res:=zpH) (W:=fun x=>zrQ x.1 x.2.1 x.2.2.1 x.2.2.2.1) (z:=default)
def zs7:Cx ty:=mkCx base 7 [] [] [] [] [] []
def zmf (t:Term):Wy0 (Bool):=.k (Int.ofNat t.Factors.length==0)
def zjj (t:Term):Bool×Bool:=(zmf t).fin default
def zkP (r:Bool):ARes ty:=⟨[.pure (.lit (.bool r))],[]⟩
def zl2:AL base (Term×Unit):=zf (zg (vAgg 152)) aNil
def zeG:Ab.Spec ty:=zk zl2 fun x=>((zjj x.1).1,zkP (zjj x.1).2)
theorem zhd:Sound Tryz.prog base 200 zeG:=
 zr (cx':=zs7) zF zm zB (zu trivial) Tryz.call200 Tryz.func200 (c:=body Tryz.f200) (by kernel_rfl) (zh (l:=[]) (by kernel_rfl) trivial) (sg:=⟨[.pure],[]⟩) (A:=zl2) (res:=zkP) (W:=fun x=>zmf x.1) (z:=default)
abbrev ttTslicesIndexFuncapiAnnotationapiTermhc0:=List Term×Unit×Int×Int×Unit
def zj0 (s:List Term) (t7:Int) (t8:Int):Wy ttTslicesIndexFuncapiAnnotationapiTermhc0 (Unit) (Int⊕Unit):=.i (decide (t8<t7)) (.i (decide (0≤t8)&&decide (t8<Int.ofNat s.length)) (.i ((zjj (s.getD t8.toNat default)).2) (.k (.inl t8)) (.h (s,(),t7,(IntKind.i64.wrap (t8+1)),()) ())) .d) (.k (.inr ()))
def zcT (x:ttTslicesIndexFuncapiAnnotationapiTermhc0) (y:Unit):Wy ttTslicesIndexFuncapiAnnotationapiTermhc0 (Unit) (Int⊕Unit):=zj0 x.1 x.2.2.1 x.2.2.2.1
def zj1 (n:Nat) (s:List Term) (t7:Int) (t8:Int):Bool×(Int⊕Unit):=zP (zcT) (.inl default) n (s,(),t7,t8,()) ()
def zfG (r:Int⊕Unit):LTree ty:=.ite (isL r) (.done .ret [.lit (.int .i64 (getL r))] []) (.done (.exit 0) [] [])
def zf1:LL ty ttTslicesIndexFuncapiAnnotationapiTermhc0:=za (lSl 152) (za (lFn 200 (zD)) (za (lInt .i64) (za (lInt .i64) zD)))
def zfV:BL ty (Unit):=bNil
def zfC (x:ttTslicesIndexFuncapiAnnotationapiTermhc0) (y:Unit):Nat:=(x.1.length+Int.toNat x.2.2.1+Int.toNat x.2.2.2.1+1000)
def zf4:Cx ty:=mkCx base 19 [(200,zeG)] [] [(2,[(0,.keep),(1,.keep),(7,.keep),(8,.keep)])] [(2,1,[]),(2,0,[(4,.keep)])] [(2,spW zf1 zfV (zcT) (.inl default) zfG zfC)] []
theorem zjY:zW zf4 (lp (body Tryz.f195) 0):=zK (id:=2) (V:=zf1) (B:=zfV) (W:=zcT) (z:=.inl default) (tr:=zfG) (m:=zfC)
def zgs (s:List Term):Wy0 (Int):=.bn (zj1 (s.length+(Int.ofNat s.length).toNat +Int.toNat 0+1000) s (Int.ofNat s.length) 0) fun r0=>.i (isL r0) (.k (getL r0)) (.k (-1:Int))
def zdi (s:List Term):Bool×Int:=(zgs s).fin default
def zfv (r:Int):ARes ty:=⟨[.pure (.lit (.int .i64 r))],[]⟩
def zgd:AL base (List Term×Unit×Unit):=zf (zg (vSl 152)) (zf (zg (vFn 200 vNil)) aNil)
def zfe:Ab.Spec ty:=zk zgd fun x=>((zdi x.1).1,zfv (zdi x.1).2)
theorem zjy:Sound Tryz.prog base 195 zfe:=
 zr (cx':=zf4) zF zm zB (zu ⟨zhd,trivial⟩) Tryz.call195 Tryz.func195 (c:=body Tryz.f195) (by kernel_rfl) (zh (l:=[lp (body Tryz.f195) 0]) (by kernel_rfl) ⟨zjY,trivial⟩) (sg:=⟨[.pure],[]⟩) (A:=zgd) (res:=zfv) (W:=fun x=>zgs x.1) (z:=default)
def zjx:Cx ty:=mkCx base 9 [(195,zfe),(200,zeG)] [] [] [] [] []
def zfg (s:List Term):Wy0 (Bool):=.bn (zdi s) fun r0=>.k (decide (r0≥0))
def zcW (s:List Term):Bool×Bool:=(zfg s).fin default
def zeW (r:Bool):ARes ty:=⟨[.pure (.lit (.bool r))],[]⟩
def zfp:AL base (List Term×Unit×Unit):=zf (zg (vSl 152)) (zf (zg (vFn 200 vNil)) aNil)
def zep:Ab.Spec ty:=zk zfp fun x=>((zcW x.1).1,zeW (zcW x.1).2)
theorem ziQ:Sound Tryz.prog base 138 zep:=
 zr (cx':=zjx) zF zm zB (zu ⟨zjy,zhd,trivial⟩) Tryz.call138 Tryz.func138 (c:=body Tryz.f138) (by kernel_rfl) (zh (l:=[]) (by kernel_rfl) trivial) (sg:=⟨[.pure],[]⟩) (A:=zfp) (res:=zeW) (W:=fun x=>zfg x.1) (z:=default)
def zve:Cx ty:=mkCx base 5 [(138,zep),(200,zeG)] [] [] [] [] []
def znW (a:List Term):Wy0 (Bool):=.bn (zcW a) fun r0=>.k r0
def zkA (a:List Term):Bool×Bool:=(znW a).fin default
def zmT (r:Bool):ARes ty:=⟨[.pure (.lit (.bool r))],[]⟩
def zoe:AL base (List Term×Unit):=zf (zg (vSl 152)) aNil
def zlX:Ab.Spec ty:=zk zoe fun x=>((zkA x.1).1,zmT (zkA x.1).2)
theorem zsR:Sound Tryz.prog base 154 zlX:=
 zr (cx':=zve) zF zm zB (zu ⟨ziQ,zhd,trivial⟩) Tryz.call154 Tryz.func154 (c:=body Tryz.f154) (by kernel_rfl) (zh (l:=[]) (by kernel_rfl) trivial) (sg:=⟨[.pure],[]⟩) (A:=zoe) (res:=zmT) (W:=fun x=>znW x.1) (z:=default)
def zv6:Cx ty:=mkCx base 14 [] [] [] [] [] []
def zoV (a:List Term):Wy0 (Bool):=.i (Int.ofNat a.length==1) (.i (decide ((0:Int)≤(0:Int))&&decide (0<Int.ofNat a.length)) (.k (Int.ofNat (a.getD (Int.toNat 0) default).Factors.length==0)) .d) (.k false)
def zll (a:List Term):Bool×Bool:=(zoV a).fin default
def znF (r:Bool):ARes ty:=⟨[.pure (.lit (.bool r))],[]⟩
def zoZ:AL base (List Term×Unit):=zf (zg (vSl 152)) aNil
def zm1:Ab.Spec ty:=zk zoZ fun x=>((zll x.1).1,znF (zll x.1).2)
theorem ztR:Sound Tryz.prog base 152 zm1:=
 zr (cx':=zv6) zF zm zB (zu trivial) Tryz.call152 Tryz.func152 (c:=body Tryz.f152) (by kernel_rfl) (zh (l:=[]) (by kernel_rfl) trivial) (sg:=⟨[.pure],[]⟩) (A:=zoZ) (res:=znF) (W:=fun x=>zoV x.1) (z:=default)
def zzA:Cx ty:=mkCx base 42 [(109,ziX)] [] [] [] [] []
def zsO (a:List Term):Wy0 (Bool):=.i (Int.ofNat a.length != 1) (.k false) (.i (decide ((0:Int)≤(0:Int))&&decide (0<Int.ofNat a.length)) (.i ((a.getD (Int.toNat 0) default).Coeff != 1) (.k false) (.i (decide ((0:Int)≤(0:Int))&&decide (0<Int.ofNat a.length)) (.i (Int.ofNat (a.getD (Int.toNat 0) default).Factors.length != 1) (.k false) (.i (decide ((0:Int)≤(0:Int))&&decide (0<Int.ofNat a.length)) (.i (decide ((0:Int)≤(0:Int))&&decide (0<Int.ofNat (a.getD (Int.toNat 0) default).Factors.length)) (.i (((a.getD (Int.toNat 0) default).Factors.getD (Int.toNat 0) default).Exp==1) (.i (((a.getD (Int.toNat 0) default).Factors.getD (Int.toNat 0) default).Atom.Kind==2) (.k true) (.bn (ziK (Atom.mk ((a.getD (Int.toNat 0) default).Factors.getD (Int.toNat 0) default).Atom.Kind ((a.getD (Int.toNat 0) default).Factors.getD (Int.toNat 0) default).Atom.Row ((a.getD (Int.toNat 0) default).Factors.getD (Int.toNat 0) default).Atom.Args ((a.getD (Int.toNat 0) default).Factors.getD (Int.toNat 0) default).Atom.Func ((a.getD (Int.toNat 0) default).Factors.getD (Int.toNat 0) default).Atom.Items ((a.getD (Int.toNat 0) default).Factors.getD (Int.toNat 0) default).Atom.Op ((a.getD (Int.toNat 0) default).Factors.getD (Int.toNat 0) default).Atom.Bound)) fun r0=>.k r0)) (.k false)) .d) .d)) .d)) .d)
def zo5 (a:List Term):Bool×Bool:=(zsO a).fin default
def zqC (r:Bool):ARes ty:=⟨[.pure (.lit (.bool r))],[]⟩
def zst:AL base (List Term×Unit):=zf (zg (vSl 152)) aNil
def zpK:Ab.Spec ty:=zk zst fun x=>((zo5 x.1).1,zqC (zo5 x.1).2)
theorem zwI:Sound Tryz.prog base 153 zpK:=
 zr (cx':=zzA) zF zm zB (zu ⟨zl7,trivial⟩) Tryz.call153 Tryz.func153 (c:=body Tryz.f153) (by kernel_rfl) (zh (l:=[]) (by kernel_rfl) trivial) (sg:=⟨[.pure],[]⟩) (A:=zst) (res:=zqC) (W:=fun x=>zsO x.1) (z:=default)
def zDq:Cx ty:=mkCx base 11 [] [] [] [] [] []
def zyT (id:RowID):Wy0 (Bool):=.i (decide (id.Table≥1)) (.k (decide (id.Seq≥1))) (.k false)
def zvT (id:RowID):Bool×Bool:=(zyT id).fin default
def zvC (r:Bool):ARes ty:=⟨[.pure (.lit (.bool r))],[]⟩
def zza:AL base (RowID×Unit):=zf (zg (vAgg 155)) aNil
def zu0:Ab.Spec ty:=zk zza fun x=>((zvT x.1).1,zvC (zvT x.1).2)
theorem zBs:Sound Tryz.prog base 150 zu0:=
 zr (cx':=zDq) zF zm zB (zu trivial) Tryz.call150 Tryz.func150 (c:=body Tryz.f150) (by kernel_rfl) (zh (l:=[]) (by kernel_rfl) trivial) (sg:=⟨[.pure],[]⟩) (A:=zza) (res:=zvC) (W:=fun x=>zyT x.1) (z:=default)
abbrev ttTslicesIsSortedFuncLapiWeightedapiWeighted0:=List Weighted×Unit×Int×Unit
def zjF (x_:List Weighted) (i:Int):Wy ttTslicesIsSortedFuncLapiWeightedapiWeighted0 (Unit) (Bool⊕Unit):=.i (decide (i>0)) (.i (decide (0≤i)&&decide (i<Int.ofNat x_.length)) (.i (decide (0≤IntKind.i64.wrap (i - 1))&&decide (IntKind.i64.wrap (i - 1)<Int.ofNat x_.length)) (.bn (zoG (x_.getD i.toNat default) (x_.getD (IntKind.i64.wrap (i - 1)).toNat default)) fun r0=>.i (decide (r0<0)) (.k (.inl false)) (.h (x_,(),(IntKind.i64.wrap (i - 1)),()) ())) .d) .d) (.k (.inr ()))
def zcB (x:ttTslicesIsSortedFuncLapiWeightedapiWeighted0) (y:Unit):Wy ttTslicesIsSortedFuncLapiWeightedapiWeighted0 (Unit) (Bool⊕Unit):=zjF x.1 x.2.2.1
def zjz (n:Nat) (x_:List Weighted) (i:Int):Bool×(Bool⊕Unit):=zP (zcB) (.inl default) n (x_,(),i,()) ()
def zeS (r:Bool⊕Unit):LTree ty:=.ite (isL r) (.done .ret [.lit (.bool (getL r))] []) (.done (.exit 0) [] [])
def ze3:LL ty ttTslicesIsSortedFuncLapiWeightedapiWeighted0:=za (lSl 182) (za (lFn 147 (zD)) (za (lInt .i64) zD))
def ze1:BL ty (Unit):=bNil
def ze6:Cx ty:=mkCx base 25 [(147,annotation_compareItems_spec)] [] [(2,[(0,.keep),(1,.keep),(5,.keep)])] [(2,1,[]),(2,0,[(4,.keep)])] [(2,spW ze3 ze1 (zcB) (.inl default) zeS fun x y=>(x.1.length+Int.toNat x.2.2.1+1000))] []
theorem zjo:zW ze6 (lp (body Tryz.f157) 0):=zK (id:=2) (V:=ze3) (B:=ze1) (W:=zcB) (z:=.inl default) (tr:=zeS) (m:=fun x y=>(x.1.length+Int.toNat x.2.2.1+1000))
def zfj (x_:List Weighted):Wy0 (Bool):=.bn (zjz (x_.length+(IntKind.i64.wrap (Int.ofNat x_.length - 1)).toNat +1000) x_ (IntKind.i64.wrap (Int.ofNat x_.length - 1))) fun r2=>.i (isL r2) (.k (getL r2)) (.k true)
def zcV (x_:List Weighted):Bool×Bool:=(zfj x_).fin default
def zeO (r:Bool):ARes ty:=⟨[.pure (.lit (.bool r))],[]⟩
def zfb:AL base (List Weighted×Unit×Unit):=zf (zg (vSl 182)) (zf (zg (vFn 147 vNil)) aNil)
def zew:Ab.Spec ty:=zk zfb fun x=>((zcV x.1).1,zeO (zcV x.1).2)
theorem ziR:Sound Tryz.prog base 157 zew:=
 zr (cx':=ze6) zF zm zB (zu ⟨zkN,trivial⟩) Tryz.call157 Tryz.func157 (c:=body Tryz.f157) (by kernel_rfl) (zh (l:=[lp (body Tryz.f157) 0]) (by kernel_rfl) ⟨zjo,trivial⟩) (sg:=⟨[.pure],[]⟩) (A:=zfb) (res:=zeO) (W:=fun x=>zfj x.1) (z:=default)
def zbE (zb:List (List Term)→Bool×Bool) (ze:List Term→Bool×Bool) (zc:List Weighted→Bool×Bool) (zd:Weighted→Bool×Bool):Cx ty:=mkCx base 149 [(147,annotation_compareItems_spec),(148,(zbl zb)),(149,(zbY ze)),(150,zu0),(151,zqS),(152,zm1),(153,zpK),(154,zlX),(155,(zbz zc)),(156,(zbX zd)),(157,zew),(158,zoH)] [] [] [] [] []
def zbp (zb:List (List Term)→Bool×Bool) (ze:List Term→Bool×Bool) (zc:List Weighted→Bool×Bool) (zd:Weighted→Bool×Bool) (x_:Atom):Wy0 (Bool):=.i (x_.Kind==0) (.i (x_.Func != 0) (.k false) (.i (Int.ofNat x_.Items.length != 0) (.k false) (.i (x_.Op != 0) (.k false) (.i (!(x_.Bound.Kind==0&&(x_.Bound.Int==0&&(x_.Bound.Text.toList==(ByteArray.mk #[]).toList&&true)))) (.k false) (.bn (zb x_.Args) fun r1=>.i (r1) (.k false) (.bn (zvT x_.Row) fun r0=>.i (r0) (.k (Int.ofNat x_.Args.length==0)) (.k false))))))) (.i (x_.Kind==1) (.i (x_.Func != 0) (.k false) (.i (Int.ofNat x_.Items.length != 0) (.k false) (.i (x_.Op != 0) (.k false) (.i (!(x_.Bound.Kind==0&&(x_.Bound.Int==0&&(x_.Bound.Text.toList==(ByteArray.mk #[]).toList&&true)))) (.k false) (.i (!(x_.Row.Table==0&&(x_.Row.Seq==0&&true))) (.k false) (.bn (zb x_.Args) fun r3=>.i (r3) (.k false) (.i (Int.ofNat x_.Args.length==2) (.i (decide ((0:Int)≤(0:Int))&&decide (0<Int.ofNat x_.Args.length)) (.i (decide ((0:Int)≤(1:Int))&&decide (1<Int.ofNat x_.Args.length)) (.bn (zp5 (x_.Args.getD (Int.toNat 0) default) (x_.Args.getD (Int.toNat 1) default)) fun r2=>.k (!r2)) .d) .d) (.k false)))))))) (.i (x_.Kind==2) (.i (x_.Func != 0) (.k false) (.i (Int.ofNat x_.Items.length != 0) (.k false) (.i (x_.Op != 0) (.k false) (.i (!(x_.Bound.Kind==0&&(x_.Bound.Int==0&&(x_.Bound.Text.toList==(ByteArray.mk #[]).toList&&true)))) (.k false) (.i (!(x_.Row.Table==0&&(x_.Row.Seq==0&&true))) (.k false) (.bn (zb x_.Args) fun r6=>.i (r6) (.k false) (.i (Int.ofNat x_.Args.length==1) (.i (decide ((0:Int)≤(0:Int))&&decide (0<Int.ofNat x_.Args.length)) (.bn (zll (x_.Args.getD (Int.toNat 0) default)) fun r5=>.i (!r5) (.i (decide ((0:Int)≤(0:Int))&&decide (0<Int.ofNat x_.Args.length)) (.bn (zo5 (x_.Args.getD (Int.toNat 0) default)) fun r4=>.k (!r4)) .d) (.k false)) .d) (.k false)))))))) (.i (x_.Kind==3) (.i (x_.Func != 0) (.k false) (.i (Int.ofNat x_.Items.length != 0) (.k false) (.i (x_.Op != 0) (.k false) (.i (!(x_.Bound.Kind==0&&(x_.Bound.Int==0&&(x_.Bound.Text.toList==(ByteArray.mk #[]).toList&&true)))) (.k false) (.i (!(x_.Row.Table==0&&(x_.Row.Seq==0&&true))) (.k false) (.bn (zb x_.Args) fun r8=>.i (r8) (.k false) (.i (Int.ofNat x_.Args.length==1) (.i (decide ((0:Int)≤(0:Int))&&decide (0<Int.ofNat x_.Args.length)) (.bn (zkA (x_.Args.getD (Int.toNat 0) default)) fun r7=>.k (!r7)) .d) (.k false)))))))) (.i (x_.Kind==4) (.i (!(x_.Row.Table==0&&(x_.Row.Seq==0&&true))) (.k false) (.bn (zb x_.Args) fun r12=>.i (r12) (.k false) (.bn (zc x_.Items) fun r11=>.i (Int.ofNat x_.Args.length==0) (.i (decide (Int.ofNat x_.Items.length>0)) (.i (!r11) (.bn (zcV x_.Items) fun r10=>.i (r10) (.bn (zob x_.Func x_.Items x_.Op x_.Bound) fun r9=>.k r9) (.k false)) (.k false)) (.k false)) (.k false)))) (.i (x_.Func != 0) (.k false) (.i (Int.ofNat x_.Items.length != 0) (.k false) (.i (x_.Op != 0) (.k false) (.i (!(x_.Bound.Kind==0&&(x_.Bound.Int==0&&(x_.Bound.Text.toList==(ByteArray.mk #[]).toList&&true)))) (.k false) (.i (!(x_.Row.Table==0&&(x_.Row.Seq==0&&true))) (.k false) (.bn (zb x_.Args) fun r14=>.i (r14) (.k false) (.k false)))))))))))
def zpA (zb:List (List Term)→Bool×Bool) (ze:List Term→Bool×Bool) (zc:List Weighted→Bool×Bool) (zd:Weighted→Bool×Bool) (x_:Atom):Bool×Bool:=(zbp zb ze zc zd x_).fin default
theorem ztK (zb:List (List Term)→Bool×Bool) (ze:List Term→Bool×Bool) (zc:List Weighted→Bool×Bool) (zd:Weighted→Bool×Bool) (v_Row:RowID) (v_Args:List (List Term)) (v_Func:Int) (v_Items:List Weighted) (v_Op:Int) (v_Bound:Value)  :ze9 (zbE zb ze zc zd) Tryz.f111 (body Tryz.f111) ⟨[.pure],[]⟩ [.pure (.agg (base.enc 158 (Atom.mk (Int.ofNat 0) v_Row v_Args v_Func v_Items v_Op v_Bound)))]=(zbp zb ze zc zd (Atom.mk (Int.ofNat 0) v_Row v_Args v_Func v_Items v_Op v_Bound)).ev noH (fun r=>some (zbq r)) none:=by kernel_rfl
theorem ztJ (zb:List (List Term)→Bool×Bool) (ze:List Term→Bool×Bool) (zc:List Weighted→Bool×Bool) (zd:Weighted→Bool×Bool) (v_Row:RowID) (v_Args:List (List Term)) (v_Func:Int) (v_Items:List Weighted) (v_Op:Int) (v_Bound:Value)  :ze9 (zbE zb ze zc zd) Tryz.f111 (body Tryz.f111) ⟨[.pure],[]⟩ [.pure (.agg (base.enc 158 (Atom.mk (Int.ofNat 1) v_Row v_Args v_Func v_Items v_Op v_Bound)))]=(zbp zb ze zc zd (Atom.mk (Int.ofNat 1) v_Row v_Args v_Func v_Items v_Op v_Bound)).ev noH (fun r=>some (zbq r)) none:=by kernel_rfl
theorem zt0 (zb:List (List Term)→Bool×Bool) (ze:List Term→Bool×Bool) (zc:List Weighted→Bool×Bool) (zd:Weighted→Bool×Bool) (v_Row:RowID) (v_Args:List (List Term)) (v_Func:Int) (v_Items:List Weighted) (v_Op:Int) (v_Bound:Value)  :ze9 (zbE zb ze zc zd) Tryz.f111 (body Tryz.f111) ⟨[.pure],[]⟩ [.pure (.agg (base.enc 158 (Atom.mk (Int.ofNat 2) v_Row v_Args v_Func v_Items v_Op v_Bound)))]=(zbp zb ze zc zd (Atom.mk (Int.ofNat 2) v_Row v_Args v_Func v_Items v_Op v_Bound)).ev noH (fun r=>some (zbq r)) none:=by kernel_rfl
theorem ztL (zb:List (List Term)→Bool×Bool) (ze:List Term→Bool×Bool) (zc:List Weighted→Bool×Bool) (zd:Weighted→Bool×Bool) (v_Row:RowID) (v_Args:List (List Term)) (v_Func:Int) (v_Items:List Weighted) (v_Op:Int) (v_Bound:Value)  :ze9 (zbE zb ze zc zd) Tryz.f111 (body Tryz.f111) ⟨[.pure],[]⟩ [.pure (.agg (base.enc 158 (Atom.mk (Int.ofNat 3) v_Row v_Args v_Func v_Items v_Op v_Bound)))]=(zbp zb ze zc zd (Atom.mk (Int.ofNat 3) v_Row v_Args v_Func v_Items v_Op v_Bound)).ev noH (fun r=>some (zbq r)) none:=by kernel_rfl
theorem ztE (zb:List (List Term)→Bool×Bool) (ze:List Term→Bool×Bool) (zc:List Weighted→Bool×Bool) (zd:Weighted→Bool×Bool) (v_Row:RowID) (v_Args:List (List Term)) (v_Func:Int) (v_Items:List Weighted) (v_Op:Int) (v_Bound:Value)  :ze9 (zbE zb ze zc zd) Tryz.f111 (body Tryz.f111) ⟨[.pure],[]⟩ [.pure (.agg (base.enc 158 (Atom.mk (Int.ofNat 4) v_Row v_Args v_Func v_Items v_Op v_Bound)))]=(zbp zb ze zc zd (Atom.mk (Int.ofNat 4) v_Row v_Args v_Func v_Items v_Op v_Bound)).ev noH (fun r=>some (zbq r)) none:=by kernel_rfl
theorem ztA (zb:List (List Term)→Bool×Bool) (ze:List Term→Bool×Bool) (zc:List Weighted→Bool×Bool) (zd:Weighted→Bool×Bool) (n:Nat) (v_Row:RowID) (v_Args:List (List Term)) (v_Func:Int) (v_Items:List Weighted) (v_Op:Int) (v_Bound:Value)  :ze9 (zbE zb ze zc zd) Tryz.f111 (body Tryz.f111) ⟨[.pure],[]⟩ [.pure (.agg (base.enc 158 (Atom.mk (Int.ofNat (n+5)) v_Row v_Args v_Func v_Items v_Op v_Bound)))]=(zbp zb ze zc zd (Atom.mk (Int.ofNat (n+5)) v_Row v_Args v_Func v_Items v_Op v_Bound)).ev noH (fun r=>some (zbq r)) none:=by kernel_rfl
theorem ztO (zb:List (List Term)→Bool×Bool) (ze:List Term→Bool×Bool) (zc:List Weighted→Bool×Bool) (zd:Weighted→Bool×Bool) (n:Nat) (v_Row:RowID) (v_Args:List (List Term)) (v_Func:Int) (v_Items:List Weighted) (v_Op:Int) (v_Bound:Value)  :ze9 (zbE zb ze zc zd) Tryz.f111 (body Tryz.f111) ⟨[.pure],[]⟩ [.pure (.agg (base.enc 158 (Atom.mk (Int.negSucc n) v_Row v_Args v_Func v_Items v_Op v_Bound)))]=(zbp zb ze zc zd (Atom.mk (Int.negSucc n) v_Row v_Args v_Func v_Items v_Op v_Bound)).ev noH (fun r=>some (zbq r)) none:=by kernel_rfl
theorem zuG (zb:List (List Term)→Bool×Bool) (ze:List Term→Bool×Bool) (zc:List Weighted→Bool×Bool) (zd:Weighted→Bool×Bool) (x_:Atom):ze9 (zbE zb ze zc zd) Tryz.f111 (body Tryz.f111) ⟨[.pure],[]⟩ [.pure (.agg (base.enc 158 x_))]=(zbp zb ze zc zd x_).ev noH (fun r=>some (zbq r)) none:=by
 obtain ⟨v_Kind,v_Row,v_Args,v_Func,v_Items,v_Op,v_Bound⟩:=x_
 match v_Kind with
 | .ofNat 0=>exact ztK zb ze zc zd v_Row v_Args v_Func v_Items v_Op v_Bound 
 | .ofNat 1=>exact ztJ zb ze zc zd v_Row v_Args v_Func v_Items v_Op v_Bound 
 | .ofNat 2=>exact zt0 zb ze zc zd v_Row v_Args v_Func v_Items v_Op v_Bound 
 | .ofNat 3=>exact ztL zb ze zc zd v_Row v_Args v_Func v_Items v_Op v_Bound 
 | .ofNat 4=>exact ztE zb ze zc zd v_Row v_Args v_Func v_Items v_Op v_Bound 
 | .ofNat (n+5)=>exact ztA zb ze zc zd n v_Row v_Args v_Func v_Items v_Op v_Bound 
 | .negSucc n=>exact ztO zb ze zc zd n v_Row v_Args v_Func v_Items v_Op v_Bound 
theorem zsW (zb:List (List Term)→Bool×Bool) (ze:List Term→Bool×Bool) (zc:List Weighted→Bool×Bool) (zd:Weighted→Bool×Bool) (zhS:Sound Tryz.prog base 148 (zbl zb)) (zdX:Sound Tryz.prog base 149 (zbY ze)) (ziA:Sound Tryz.prog base 155 (zbz zc)) (zdY:Sound Tryz.prog base 156 (zbX zd)):Sound Tryz.prog base 111 (zic (zpA zb ze zc zd)):=
 zr (cx':=(zbE zb ze zc zd)) zF zm zB (zu ⟨zkN,zhS,zdX,zBs,zx4,ztR,zwI,zsR,ziA,zdY,ziR,zwu,trivial⟩) Tryz.call111 Tryz.func111 (c:=body Tryz.f111) (by kernel_rfl) (zh (l:=[]) (by kernel_rfl) trivial) (sg:=⟨[.pure],[]⟩) (A:=zpy) (res:=zbq) (W:=fun x=>zbp zb ze zc zd x.1) (z:=default) (fun x=>zuG zb ze zc zd x.1) (fun _=>by kernel_rfl)
def zs6 (zR:List Term→Bool×Bool):Cx ty:=mkCx base 11 [(69,(zfq zR))] [] [] [] [] []
def zlW (zR:List Term→Bool×Bool) (a:List Term):Wy0 (Bool):=.bn (zR a) fun r0=>.i (!r0) (.k true) (.k (Int.ofNat a.length==0))
def znv (zR:List Term→Bool×Bool) (a:List Term):Bool×Bool:=(zlW zR a).fin default
theorem zrb (zR:List Term→Bool×Bool) (zmo:Sound Tryz.prog base 69 (zfq zR)):Sound Tryz.prog base 149 (zbY (znv zR)):=
 zr (cx':=(zs6 zR)) zF zm zB (zu ⟨zmo,trivial⟩) Tryz.call149 Tryz.func149 (c:=body Tryz.f149) (by kernel_rfl) (zh (l:=[]) (by kernel_rfl) trivial) (sg:=⟨[.pure],[]⟩) (A:=znk) (res:=zmi) (W:=fun x=>zlW zR x.1) (z:=default)
def ztb (zR:List Term→Bool×Bool):Cx ty:=mkCx base 13 [(69,(zfq zR))] [] [] [] [] []
def zlK (zR:List Term→Bool×Bool) (w:Weighted):Wy0 (Bool):=.bn (zR w.Ann) fun r0=>.i (!r0) (.k true) (.k (Int.ofNat w.Ann.length==0))
def znL (zR:List Term→Bool×Bool) (w:Weighted):Bool×Bool:=(zlK zR w).fin default
theorem zq9 (zR:List Term→Bool×Bool) (zmo:Sound Tryz.prog base 69 (zfq zR)):Sound Tryz.prog base 156 (zbX (znL zR)):=
 zr (cx':=(ztb zR)) zF zm zB (zu ⟨zmo,trivial⟩) Tryz.call156 Tryz.func156 (c:=body Tryz.f156) (by kernel_rfl) (zh (l:=[]) (by kernel_rfl) trivial) (sg:=⟨[.pure],[]⟩) (A:=znE) (res:=zlV) (W:=fun x=>zlK zR x.1) (z:=default)
def zhG (ze:List Term→Bool×Bool) (zG:List (List Term)→Bool×Int):Cx ty:=mkCx base 9 [(149,(zbY ze)),(199,(zbr zG))] [] [] [] [] []
def zdm (ze:List Term→Bool×Bool) (zG:List (List Term)→Bool×Int) (s:List (List Term)):Wy0 (Bool):=.bn (zG s) fun r0=>.k (decide (r0≥0))
def zdL (ze:List Term→Bool×Bool) (zG:List (List Term)→Bool×Int) (s:List (List Term)):Bool×Bool:=(zdm ze zG s).fin default
theorem zhh (ze:List Term→Bool×Bool) (zG:List (List Term)→Bool×Int) (zdX:Sound Tryz.prog base 149 (zbY ze)) (zit:Sound Tryz.prog base 199 (zbr zG)):Sound Tryz.prog base 148 (zbl (zdL ze zG)):=
 zr (cx':=(zhG ze zG)) zF zm zB (zu ⟨zdX,zit,trivial⟩) Tryz.call148 Tryz.func148 (c:=body Tryz.f148) (by kernel_rfl) (zh (l:=[]) (by kernel_rfl) trivial) (sg:=⟨[.pure],[]⟩) (A:=zdJ) (res:=zdk) (W:=fun x=>zdm ze zG x.1) (z:=default)
def zii (zd:Weighted→Bool×Bool) (zH:List Weighted→Bool×Int):Cx ty:=mkCx base 9 [(156,(zbX zd)),(201,(zbI zH))] [] [] [] [] []
def zea (zd:Weighted→Bool×Bool) (zH:List Weighted→Bool×Int) (s:List Weighted):Wy0 (Bool):=.bn (zH s) fun r0=>.k (decide (r0≥0))
def zex (zd:Weighted→Bool×Bool) (zH:List Weighted→Bool×Int) (s:List Weighted):Bool×Bool:=(zea zd zH s).fin default
theorem zhW (zd:Weighted→Bool×Bool) (zH:List Weighted→Bool×Int) (zdY:Sound Tryz.prog base 156 (zbX zd)) (zjl:Sound Tryz.prog base 201 (zbI zH)):Sound Tryz.prog base 155 (zbz (zex zd zH)):=
 zr (cx':=(zii zd zH)) zF zm zB (zu ⟨zdY,zjl,trivial⟩) Tryz.call155 Tryz.func155 (c:=body Tryz.f155) (by kernel_rfl) (zh (l:=[]) (by kernel_rfl) trivial) (sg:=⟨[.pure],[]⟩) (A:=zez) (res:=zd5) (W:=fun x=>zea zd zH x.1) (z:=default)
abbrev ttTslicesIndexFuncLapiAnnotationapiAnnotationv10:=List (List Term)×Unit×Int×Int×Unit
def zh9 (ze:List Term→Bool×Bool) (s:List (List Term)) (t7:Int) (t8:Int):Wy ttTslicesIndexFuncLapiAnnotationapiAnnotationv10 (Unit) (Int⊕Unit):=.i (decide (t8<t7)) (.i (decide (0≤t8)&&decide (t8<Int.ofNat s.length)) (.bn (ze (s.getD t8.toNat default)) fun r0=>.i (r0) (.k (.inl t8)) (.h (s,(),t7,(IntKind.i64.wrap (t8+1)),()) ())) .d) (.k (.inr ()))
def zb5 (ze:List Term→Bool×Bool) (x:ttTslicesIndexFuncLapiAnnotationapiAnnotationv10) (y:Unit):Wy ttTslicesIndexFuncLapiAnnotationapiAnnotationv10 (Unit) (Int⊕Unit):=zh9 ze x.1 x.2.2.1 x.2.2.2.1
def zh8 (ze:List Term→Bool×Bool) (n:Nat) (s:List (List Term)) (t7:Int) (t8:Int):Bool×(Int⊕Unit):=zP (zb5 ze) (.inl default) n (s,(),t7,t8,()) ()
def zdy (r:Int⊕Unit):LTree ty:=.ite (isL r) (.done .ret [.lit (.int .i64 (getL r))] []) (.done (.exit 0) [] [])
def zdM:LL ty ttTslicesIndexFuncLapiAnnotationapiAnnotationv10:=za (lSl 36) (za (lFn 149 (zD)) (za (lInt .i64) (za (lInt .i64) zD)))
def zdG:BL ty (Unit):=bNil
def zdw (x:ttTslicesIndexFuncLapiAnnotationapiAnnotationv10) (y:Unit):Nat:=(x.1.length+Int.toNat x.2.2.1+Int.toNat x.2.2.2.1+1000)
def zdO (ze:List Term→Bool×Bool):Cx ty:=mkCx base 19 [(149,(zbY ze))] [] [(2,[(0,.keep),(1,.keep),(7,.keep),(8,.keep)])] [(2,1,[]),(2,0,[(4,.keep)])] [(2,spW zdM zdG (zb5 ze) (.inl default) zdy zdw)] []
theorem zhZ (ze:List Term→Bool×Bool):zW (zdO ze) (lp (body Tryz.f199) 0):=zK (id:=2) (V:=zdM) (B:=zdG) (W:=zb5 ze) (z:=.inl default) (tr:=zdy) (m:=zdw)
def zdR (ze:List Term→Bool×Bool) (s:List (List Term)):Wy0 (Int):=.bn (zh8 ze (s.length+(Int.ofNat s.length).toNat +Int.toNat 0+1000) s (Int.ofNat s.length) 0) fun r2=>.i (isL r2) (.k (getL r2)) (.k (-1:Int))
def zec (ze:List Term→Bool×Bool) (s:List (List Term)):Bool×Int:=(zdR ze s).fin default
theorem zhJ (ze:List Term→Bool×Bool) (zdX:Sound Tryz.prog base 149 (zbY ze)):Sound Tryz.prog base 199 (zbr (zec ze)):=
 zr (cx':=(zdO ze)) zF zm zB (zu ⟨zdX,trivial⟩) Tryz.call199 Tryz.func199 (c:=body Tryz.f199) (by kernel_rfl) (zh (l:=[lp (body Tryz.f199) 0]) (by kernel_rfl) ⟨zhZ ze,trivial⟩) (sg:=⟨[.pure],[]⟩) (A:=zee) (res:=zdV) (W:=fun x=>zdR ze x.1) (z:=default)
abbrev ttTslicesIndexFuncLapiWeightedapiWeightedv20:=List Weighted×Unit×Int×Int×Unit
def zi0 (zd:Weighted→Bool×Bool) (s:List Weighted) (t7:Int) (t8:Int):Wy ttTslicesIndexFuncLapiWeightedapiWeightedv20 (Unit) (Int⊕Unit):=.i (decide (t8<t7)) (.i (decide (0≤t8)&&decide (t8<Int.ofNat s.length)) (.bn (zd (s.getD t8.toNat default)) fun r0=>.i (r0) (.k (.inl t8)) (.h (s,(),t7,(IntKind.i64.wrap (t8+1)),()) ())) .d) (.k (.inr ()))
def zcs (zd:Weighted→Bool×Bool) (x:ttTslicesIndexFuncLapiWeightedapiWeightedv20) (y:Unit):Wy ttTslicesIndexFuncLapiWeightedapiWeightedv20 (Unit) (Int⊕Unit):=zi0 zd x.1 x.2.2.1 x.2.2.2.1
def zi1 (zd:Weighted→Bool×Bool) (n:Nat) (s:List Weighted) (t7:Int) (t8:Int):Bool×(Int⊕Unit):=zP (zcs zd) (.inl default) n (s,(),t7,t8,()) ()
def zeh (r:Int⊕Unit):LTree ty:=.ite (isL r) (.done .ret [.lit (.int .i64 (getL r))] []) (.done (.exit 0) [] [])
def zen:LL ty ttTslicesIndexFuncLapiWeightedapiWeightedv20:=za (lSl 182) (za (lFn 156 (zD)) (za (lInt .i64) (za (lInt .i64) zD)))
def zet:BL ty (Unit):=bNil
def zeb (x:ttTslicesIndexFuncLapiWeightedapiWeightedv20) (y:Unit):Nat:=(x.1.length+Int.toNat x.2.2.1+Int.toNat x.2.2.2.1+1000)
def zer (zd:Weighted→Bool×Bool):Cx ty:=mkCx base 19 [(156,(zbX zd))] [] [(2,[(0,.keep),(1,.keep),(7,.keep),(8,.keep)])] [(2,1,[]),(2,0,[(4,.keep)])] [(2,spW zen zet (zcs zd) (.inl default) zeh zeb)] []
theorem ziO (zd:Weighted→Bool×Bool):zW (zer zd) (lp (body Tryz.f201) 0):=zK (id:=2) (V:=zen) (B:=zet) (W:=zcs zd) (z:=.inl default) (tr:=zeh) (m:=zeb)
def zeI (zd:Weighted→Bool×Bool) (s:List Weighted):Wy0 (Int):=.bn (zi1 zd (s.length+(Int.ofNat s.length).toNat +Int.toNat 0+1000) s (Int.ofNat s.length) 0) fun r2=>.i (isL r2) (.k (getL r2)) (.k (-1:Int))
def zfk (zd:Weighted→Bool×Bool) (s:List Weighted):Bool×Int:=(zeI zd s).fin default
theorem zih (zd:Weighted→Bool×Bool) (zdY:Sound Tryz.prog base 156 (zbX zd)):Sound Tryz.prog base 201 (zbI (zfk zd)):=
 zr (cx':=(zer zd)) zF zm zB (zu ⟨zdY,trivial⟩) Tryz.call201 Tryz.func201 (c:=body Tryz.f201) (by kernel_rfl) (zh (l:=[lp (body Tryz.f201) 0]) (by kernel_rfl) ⟨ziO zd,trivial⟩) (sg:=⟨[.pure],[]⟩) (A:=zfi) (res:=zeM) (W:=fun x=>zeI zd x.1) (z:=default)
def zcy:Nat→(List Term→Bool×Bool)×(Atom→Bool×Bool)×(List Term→Bool×Bool)×(Weighted→Bool×Bool)×(List (List Term)→Bool×Int)×(List (List Term)→Bool×Bool)×(List Weighted→Bool×Int)×(List Weighted→Bool×Bool)
 | 0=>(fun _=>(false,default),fun _=>(false,default),fun _=>(false,default),fun _=>(false,default),fun _=>(false,default),fun _=>(false,default),fun _=>(false,default),fun _=>(false,default))
 | n+1=>(ztC ((zcy n).2.1),zpA ((zcy n).2.2.2.2.2.1) ((zcy n).2.2.1) ((zcy n).2.2.2.2.2.2.2) ((zcy n).2.2.2.1),znv ((zcy n).1),znL ((zcy n).1),zec ((zcy n).2.2.1),zdL ((zcy n).2.2.1) ((zcy n).2.2.2.2.1),zfk ((zcy n).2.2.2.1),zex ((zcy n).2.2.2.1) ((zcy n).2.2.2.2.2.2.1))
def zug (n:Nat):List Term→Bool×Bool:=(zcy n).1
def zxX (n:Nat):Atom→Bool×Bool:=(zcy n).2.1
def zva (n:Nat):List Term→Bool×Bool:=(zcy n).2.2.1
def zvi (n:Nat):Weighted→Bool×Bool:=(zcy n).2.2.2.1
def ziL (n:Nat):List (List Term)→Bool×Int:=(zcy n).2.2.2.2.1
def zia (n:Nat):List (List Term)→Bool×Bool:=(zcy n).2.2.2.2.2.1
def zjQ (n:Nat):List Weighted→Bool×Int:=(zcy n).2.2.2.2.2.2.1
def zi5 (n:Nat):List Weighted→Bool×Bool:=(zcy n).2.2.2.2.2.2.2
theorem zCw:∀ n,Sound Tryz.prog base 69 (zfq (zug n))∧Sound Tryz.prog base 111 (zic (zxX n))∧Sound Tryz.prog base 149 (zbY (zva n))∧Sound Tryz.prog base 156 (zbX (zvi n))∧Sound Tryz.prog base 199 (zbr (ziL n))∧Sound Tryz.prog base 148 (zbl (zia n))∧Sound Tryz.prog base 201 (zbI (zjQ n))∧Sound Tryz.prog base 155 (zbz (zi5 n))
 | 0=>⟨zbm Tryz.call69 (fun _=>rfl),zbm Tryz.call111 (fun _=>rfl),zbm Tryz.call149 (fun _=>rfl),zbm Tryz.call156 (fun _=>rfl),zbm Tryz.call199 (fun _=>rfl),zbm Tryz.call148 (fun _=>rfl),zbm Tryz.call201 (fun _=>rfl),zbm Tryz.call155 (fun _=>rfl)⟩
 | n+1=>by
  have ih:=zCw n
  exact ⟨zvO _ (ih.2.1),zsW _ _ _ _ (ih.2.2.2.2.2.1) (ih.2.2.1) (ih.2.2.2.2.2.2.2) (ih.2.2.2.1),zrb _ (ih.1),zq9 _ (ih.1),zhJ _ (ih.2.2.1),zhh _ _ (ih.2.2.1) (ih.2.2.2.2.1),zih _ (ih.2.2.2.1),zhW _ _ (ih.2.2.2.1) (ih.2.2.2.2.2.2.1)⟩
def zvI:List Term→Bool×Bool:=zug 1000
def annotation_Valid_spec:Ab.Spec ty:=zfq zvI
theorem zxT:Sound Tryz.prog base 69 annotation_Valid_spec:=(zCw 1000).1
def zBu (r:List Term×Int):ARes ty:=⟨[.own 152 r.1,.pure (.lit (.int .i64 r.2))],[]⟩
def zCC:AL base (List Term×List Term×Unit):=zf (zg (vSl 152)) (zf (zg (vSl 152)) aNil)
def zCB (F:List Term→List Term→Bool×(List Term×Int)):Ab.Spec ty:=zk zCC fun x=>((F x.1 x.2.1).1,zBu (F x.1 x.2.1).2)
def zyt:List Term→List Term→Bool×(List Term×Int):=fun a _=>(decide (a.length=a.length+1),default)
def annotation_Add_spec:Ab.Spec ty:=zCB zyt
theorem zzR:Sound Tryz.prog base 77 annotation_Add_spec:=zbm Tryz.call77 (fun _=>decide_eq_false (Nat.ne_of_lt (Nat.lt_succ_self _)))
def zv4:Cx ty:=mkCx base 7 [] [] [] [] [] []
def zoN (x_:Row):Wy0 (Bool):=.k (Int.ofNat x_.Ann.length==0)
def ziF (x_:Row):Bool×Bool:=(zoN x_).fin default
def znj (r:Bool):ARes ty:=⟨[.pure (.lit (.bool r))],[]⟩
def zoM:AL base (Row×Unit):=zf (zg (vAgg 38)) aNil
def zgM:Ab.Spec ty:=zk zoM fun x=>((ziF x.1).1,znj (ziF x.1).2)
theorem zik:Sound Tryz.prog base 72 zgM:=
 zr (cx':=zv4) zF zm zB (zu trivial) Tryz.call72 Tryz.func72 (c:=body Tryz.f72) (by kernel_rfl) (zh (l:=[]) (by kernel_rfl) trivial) (sg:=⟨[.pure],[]⟩) (A:=zoM) (res:=znj) (W:=fun x=>zoN x.1) (z:=default)
abbrev ttTslicesCompareFuncLapiValueLapiValueapiValueapiValue0:=List Value×List Value×Unit×List Value×Int×Int×Unit
abbrev ttTslicesCompareFuncLapiValueLapiValueapiValueapiValue1:=Int⊕(List Value×List Value)
def zg6 (s1:List Value) (s2:List Value) (t11:List Value) (t12:Int) (t13:Int):Wy ttTslicesCompareFuncLapiValueLapiValueapiValueapiValue0 (Unit) ttTslicesCompareFuncLapiValueLapiValueapiValueapiValue1:=.i (decide (t13<t12)) (.i (decide (0≤t13)&&decide (t13<Int.ofNat t11.length)) (.i (decide (t13≥Int.ofNat s2.length)) (.k (.inl 1)) (.i (decide (0≤t13)&&decide (t13<Int.ofNat s2.length)) (.bn (zbF (t11.getD t13.toNat default) (s2.getD t13.toNat default)) fun r0=>.i (r0 != 0) (.k (.inl (r0))) (.h (s1,s2,(),t11,t12,(IntKind.i64.wrap (t13+1)),()) ())) .d)) .d) (.k (.inr (s1,s2)))
def zbB (x:ttTslicesCompareFuncLapiValueLapiValueapiValueapiValue0) (y:Unit):Wy ttTslicesCompareFuncLapiValueLapiValueapiValueapiValue0 (Unit) ttTslicesCompareFuncLapiValueLapiValueapiValueapiValue1:=zg6 x.1 x.2.1 x.2.2.2.1 x.2.2.2.2.1 x.2.2.2.2.2.1
def zg2 (n:Nat) (s1:List Value) (s2:List Value) (t11:List Value) (t12:Int) (t13:Int):Bool×ttTslicesCompareFuncLapiValueLapiValueapiValueapiValue1:=zP (zbB) (.inl default) n (s1,s2,(),t11,t12,t13,()) ()
def zcF (r:ttTslicesCompareFuncLapiValueLapiValueapiValueapiValue1):LTree ty:=.ite (isL r) (.done .ret [.lit (.int .i64 (getL r))] []) (.done (.exit 0) [.sl 40 (getR r).1,.sl 40 (getR r).2] [])
def zcM:LL ty ttTslicesCompareFuncLapiValueLapiValueapiValueapiValue0:=za (lSl 40) (za (lSl 40) (za (lFn 79 (zD)) (za (lSl 40) (za (lInt .i64) (za (lInt .i64) zD)))))
def zcO:BL ty (Unit):=bNil
def zcI (x:ttTslicesCompareFuncLapiValueLapiValueapiValueapiValue0) (y:Unit):Nat:=(x.1.length+x.2.1.length+x.2.2.2.1.length+Int.toNat x.2.2.2.2.1+Int.toNat x.2.2.2.2.2.1+1000)
def zcN:Cx ty:=mkCx base 39 [(79,zb9)] [] [(2,[(0,.keep),(1,.keep),(2,.keep),(11,.keep),(12,.keep),(13,.keep)])] [(2,1,[(0,.keep),(1,.keep)]),(2,0,[(6,.keep)])] [(2,spW zcM zcO (zbB) (.inl default) zcF zcI)] []
theorem zgW:zW zcN (lp (body Tryz.f161) 0):=zK (id:=2) (V:=zcM) (B:=zcO) (W:=zbB) (z:=.inl default) (tr:=zcF) (m:=zcI)
def zcP (s1:List Value) (s2:List Value):Wy0 (Int):=.bn (zg2 (s1.length+s2.length+s1.length+(Int.ofNat s1.length).toNat +Int.toNat 0+1000) s1 s2 s1 (Int.ofNat s1.length) 0) fun r2=>.i (isL r2) (.k (getL r2)) (.i (decide (Int.ofNat (getR r2).1.length<Int.ofNat (getR r2).2.length)) (.k (-1:Int)) (.k 0))
def zbJ (s1:List Value) (s2:List Value):Bool×Int:=(zcP s1 s2).fin default
def zcG (r:Int):ARes ty:=⟨[.pure (.lit (.int .i64 r))],[]⟩
def zcQ:AL base (List Value×List Value×Unit×Unit):=zf (zg (vSl 40)) (zf (zg (vSl 40)) (zf (zg (vFn 79 vNil)) aNil))
def zcE:Ab.Spec ty:=zk zcQ fun x=>((zbJ x.1 x.2.1).1,zcG (zbJ x.1 x.2.1).2)
theorem zgu:Sound Tryz.prog base 161 zcE:=
 zr (cx':=zcN) zF zm zB (zu ⟨zcj,trivial⟩) Tryz.call161 Tryz.func161 (c:=body Tryz.f161) (by kernel_rfl) (zh (l:=[lp (body Tryz.f161) 0]) (by kernel_rfl) ⟨zgW,trivial⟩) (sg:=⟨[.pure],[]⟩) (A:=zcQ) (res:=zcG) (W:=fun x=>zcP x.1 x.2.1) (z:=default)
def zzL:Cx ty:=mkCx base 8 [(79,zb9),(161,zcE)] [] [] [] [] []
def zsP (a:List Value) (b:List Value):Wy0 (Int):=.bn (zbJ a b) fun r0=>.k r0
def zo4 (a:List Value) (b:List Value):Bool×Int:=(zsP a b).fin default
def zqt (r:Int):ARes ty:=⟨[.pure (.lit (.int .i64 r))],[]⟩
def zsw:AL base (List Value×List Value×Unit):=zf (zg (vSl 40)) (zf (zg (vSl 40)) aNil)
def zpV:Ab.Spec ty:=zk zsw fun x=>((zo4 x.1 x.2.1).1,zqt (zo4 x.1 x.2.1).2)
theorem zwP:Sound Tryz.prog base 114 zpV:=
 zr (cx':=zzL) zF zm zB (zu ⟨zcj,zgu,trivial⟩) Tryz.call114 Tryz.func114 (c:=body Tryz.f114) (by kernel_rfl) (zh (l:=[]) (by kernel_rfl) trivial) (sg:=⟨[.pure],[]⟩) (A:=zsw) (res:=zqt) (W:=fun x=>zsP x.1 x.2.1) (z:=default)
def zAJ:Cx ty:=mkCx base 10 [(114,zpV)] [] [] [] [] []
def ztN (x_:Row) (y_:Row):Wy0 (Int):=.bn (zo4 x_.Values y_.Values) fun r0=>.k r0
def zbw (x_:Row) (y_:Row):Bool×Int:=(ztN x_ y_).fin default
def zrG (r:Int):ARes ty:=⟨[.pure (.lit (.int .i64 r))],[]⟩
def ztI:AL base (Row×Row×Unit):=zf (zg (vAgg 38)) (zf (zg (vAgg 38)) aNil)
def zlt:Ab.Spec ty:=zk ztI fun x=>((zbw x.1 x.2.1).1,zrG (zbw x.1 x.2.1).2)
theorem zpU:Sound Tryz.prog base 74 zlt:=
 zr (cx':=zAJ) zF zm zB (zu ⟨zwP,trivial⟩) Tryz.call74 Tryz.func74 (c:=body Tryz.f74) (by kernel_rfl) (zh (l:=[]) (by kernel_rfl) trivial) (sg:=⟨[.pure],[]⟩) (A:=ztI) (res:=zrG) (W:=fun x=>ztN x.1 x.2.1) (z:=default)
def zvn (r:List Term×Int):ARes ty:=⟨[.own 152 r.1,.pure (.lit (.int .i64 r.2))],[]⟩
def zwV:AL base (List Term×List Binding×Unit):=zf (zg (vSl 152)) (zf (zg (vSl 210)) aNil)
def zwO (F:List Term→List Binding→Bool×(List Term×Int)):Ab.Spec ty:=zk zwV fun x=>((F x.1 x.2.1).1,zvn (F x.1 x.2.1).2)
def zqH:List Term→List Binding→Bool×(List Term×Int):=fun a _=>(decide (a.length=a.length+1),default)
def annotation_Substitute_spec:Ab.Spec ty:=zwO zqH
theorem zty:Sound Tryz.prog base 115 annotation_Substitute_spec:=zbm Tryz.call115 (fun _=>decide_eq_false (Nat.ne_of_lt (Nat.lt_succ_self _)))
def zcY:Cx ty:={ base with nt:=8 }
def zbS (s:List Value):Bool×List Value:=(decide (s.length*32≤reach),s)
def zeC:Ab.Spec ty:=zk (cx:=base) (zf (zg (vSl 40)) aNil) fun x=>((zbS x.1).1,⟨[.own 40 (zbS x.1).2],[]⟩)
theorem znT:ze9 zcY Tryz.f51 (body Tryz.f51) ⟨[.own 40],[]⟩ [.pure (.lit (.slice none 0 0))]=some ⟨[.own 40 []],[]⟩:=by kernel_rfl
theorem zm4 (p:Addr) (c:Nat):ze9 zcY Tryz.f51 (body Tryz.f51) ⟨[.own 40],[]⟩ [.pure (.lit (.slice (some p) 0 c))]=some ⟨[.own 40 []],[]⟩:=by kernel_rfl
theorem znb (l:List Value):ze9 zcY Tryz.f51 (body Tryz.f51) ⟨[.own 40],[]⟩ [.pure (.sl 40 l)]=bif !l.isEmpty then bif decide ((([]:List (ty 40)).length+l.length)*32≤reach) then some ⟨[.own 40 l],[]⟩ else none else none:=by kernel_rfl
theorem zhD:Sound Tryz.prog base 51 zeC:=
 ztt (cx':=zcY) (bytes:=32) zF zm ⟨⟨rfl,rfl,rfl,rfl,rfl,rfl⟩,rfl⟩ (fun g s h=>by cases h) Tryz.call51 Tryz.func51 (c:=body Tryz.f51) (by kernel_rfl) (zh (l:=[]) (by kernel_rfl) trivial) znT zm4 znb (by kernel_rfl)
def zAO:Cx ty:=mkCx base 17 [(51,zeC),(115,annotation_Substitute_spec)] [] [] [] [] []
def zu2 (x_:Row) (a:List Term):Wy0 (Row):=.bn (zqH a []) fun r1=>.bn (zbS x_.Values) fun r0=>.k (⟨r0,r1.1⟩:Row)
def znt (x_:Row) (a:List Term):Bool×Row:=(zu2 x_ a).fin default
def zsH (r:Row):ARes ty:=⟨[.pure (.agg (base.enc 38 r))],[]⟩
def zu4:AL base (Row×List Term×Unit):=zf (zg (vAgg 38)) (zf (zg (vSl 152)) aNil)
def zrx:Ab.Spec ty:=zk zu4 fun x=>((znt x.1 x.2.1).1,zsH (znt x.1 x.2.1).2)
theorem zzi:Sound Tryz.prog base 76 zrx:=
 zr (cx':=zAO) zF zm zB (zu ⟨zhD,zty,trivial⟩) Tryz.call76 Tryz.func76 (c:=body Tryz.f76) (by kernel_rfl) (zh (l:=[]) (by kernel_rfl) trivial) (sg:=⟨[.pure],[]⟩) (A:=zu4) (res:=zsH) (W:=fun x=>zu2 x.1 x.2.1) (z:=default)
def zAF:Cx ty:=mkCx base 16 [(83,zgY)] [] [] [] [] []
def zuc (p:pair):Wy0 (Bool):=.bn (zgH p.v) fun r0=>.i (!r0) (.k true) (.k (p.v.Kind != p.c.Type_))
def zp6 (p:pair):Bool×Bool:=(zuc p).fin default
def zrn (r:Bool):ARes ty:=⟨[.pure (.lit (.bool r))],[]⟩
def zt4:AL base (pair×Unit):=zf (zg (vAgg 147)) aNil
def ziH:Ab.Spec ty:=zk zt4 fun x=>((zp6 x.1).1,zrn (zp6 x.1).2)
theorem zkG:Sound Tryz.prog base 106 ziH:=
 zr (cx':=zAF) zF zm zB (zu ⟨zhw,trivial⟩) Tryz.call106 Tryz.func106 (c:=body Tryz.f106) (by kernel_rfl) (zh (l:=[]) (by kernel_rfl) trivial) (sg:=⟨[.pure],[]⟩) (A:=zt4) (res:=zrn) (W:=fun x=>zuc x.1) (z:=default)
abbrev ttTrelationzip0:=List Column×Unit×List Value×Int×Int×Unit
abbrev ttTrelationzip1:=List pair×Unit
def zDl (l:List Column) (t8:List Value) (t9:Int) (t10:Int) (out_:List pair):Wy ttTrelationzip0 ttTrelationzip1 (List pair):=.i (decide (t10<t9)) (.i (decide (0≤t10)&&decide (t10<Int.ofNat t8.length)) (.i (decide (0≤t10)&&decide (t10<Int.ofNat l.length)) (.i (decide ((out_.length+[pair.mk (l.getD t10.toNat default) (t8.getD t10.toNat default)].length)*56≤reach)) (.h (l,(),t8,t9,(IntKind.i64.wrap (t10+1)),()) ((out_++[pair.mk (l.getD t10.toNat default) (t8.getD t10.toNat default)]),())) .d) .d) .d) (.k out_)
def zrS (x:ttTrelationzip0) (y:ttTrelationzip1):Wy ttTrelationzip0 ttTrelationzip1 (List pair):=zDl x.1 x.2.2.1 x.2.2.2.1 x.2.2.2.2.1 y.1
def zDf (n:Nat) (l:List Column) (t8:List Value) (t9:Int) (t10:Int) (out_:List pair):Bool×List pair:=zP (zrS) default n (l,(),t8,t9,t10,()) (out_,())
def zvV (r:List pair):LTree ty:=.done (.exit 0) [.own 104] [.arr 147 r false]
def zxy:LL ty ttTrelationzip0:=za (lSl 67) (za (lOwn 104) (za (lSl 40) (za (lInt .i64) (za (lInt .i64) zD))))
def zxl:BL ty ttTrelationzip1:=bArr 147 false (bNil)
def zv5 (x:ttTrelationzip0) (y:ttTrelationzip1):Nat:=(x.1.length+x.2.2.1.length+Int.toNat x.2.2.2.1+Int.toNat x.2.2.2.2.1+y.1.length+1000)
def zw1:Cx ty:=mkCx base 26 [] [] [(3,[(0,.keep),(5,.own 147),(8,.keep),(9,.keep),(10,.keep)])] [(3,1,[(5,.keep)])] [(3,spW zxy zxl (zrS) default zvV zv5)] []
theorem zCA:zW zw1 (lp (body Tryz.f105) 0):=zK (id:=3) (V:=zxy) (B:=zxl) (W:=zrS) (z:=default) (tr:=zvV) (m:=zv5)
def zyj (l:List Column) (row:List Value):Wy0 (List pair):=.bn (zDf (l.length+row.length+(Int.ofNat row.length).toNat +Int.toNat 0+0+1000) l row (Int.ofNat row.length) 0 []) fun r0=>.k r0
def zvP (l:List Column) (row:List Value):Bool×List pair:=(zyj l row).fin default
def zv8 (r:List pair):ARes ty:=⟨[.own 147 r],[]⟩
def zy0:AL base (List Column×List Value×Unit):=zf (zg (vSl 67)) (zf (zg (vSl 40)) aNil)
def zu8:Ab.Spec ty:=zk zy0 fun x=>((zvP x.1 x.2.1).1,zv8 (zvP x.1 x.2.1).2)
theorem zBE:Sound Tryz.prog base 105 zu8:=
 zr (cx':=zw1) zF zm zB (zu trivial) Tryz.call105 Tryz.func105 (c:=body Tryz.f105) (by kernel_rfl) (zh (l:=[lp (body Tryz.f105) 0]) (by kernel_rfl) ⟨zCA,trivial⟩) (sg:=⟨[.own 147],[]⟩) (A:=zy0) (res:=zv8) (W:=fun x=>zyj x.1 x.2.1) (z:=default)
abbrev ttTslicesIndexFuncLrelationpairrelationpairfi0:=List pair×Unit×Int×Int×Unit
def zjb (s:List pair) (t7:Int) (t8:Int):Wy ttTslicesIndexFuncLrelationpairrelationpairfi0 (Unit) (Int⊕Unit):=.i (decide (t8<t7)) (.i (decide (0≤t8)&&decide (t8<Int.ofNat s.length)) (.bn (zp6 (s.getD t8.toNat default)) fun r0=>.i (r0) (.k (.inl t8)) (.h (s,(),t7,(IntKind.i64.wrap (t8+1)),()) ())) .d) (.k (.inr ()))
def zcq (x:ttTslicesIndexFuncLrelationpairrelationpairfi0) (y:Unit):Wy ttTslicesIndexFuncLrelationpairrelationpairfi0 (Unit) (Int⊕Unit):=zjb x.1 x.2.2.1 x.2.2.2.1
def ziY (n:Nat) (s:List pair) (t7:Int) (t8:Int):Bool×(Int⊕Unit):=zP (zcq) (.inl default) n (s,(),t7,t8,()) ()
def zeg (r:Int⊕Unit):LTree ty:=.ite (isL r) (.done .ret [.lit (.int .i64 (getL r))] []) (.done (.exit 0) [] [])
def zeu:LL ty ttTslicesIndexFuncLrelationpairrelationpairfi0:=za (lSl 147) (za (lFn 106 (zD)) (za (lInt .i64) (za (lInt .i64) zD)))
def zeo:BL ty (Unit):=bNil
def zed (x:ttTslicesIndexFuncLrelationpairrelationpairfi0) (y:Unit):Nat:=(x.1.length+Int.toNat x.2.2.1+Int.toNat x.2.2.2.1+1000)
def zeB:Cx ty:=mkCx base 19 [(106,ziH)] [] [(2,[(0,.keep),(1,.keep),(7,.keep),(8,.keep)])] [(2,1,[]),(2,0,[(4,.keep)])] [(2,spW zeu zeo (zcq) (.inl default) zeg zed)] []
theorem ziP:zW zeB (lp (body Tryz.f135) 0):=zK (id:=2) (V:=zeu) (B:=zeo) (W:=zcq) (z:=.inl default) (tr:=zeg) (m:=zed)
def zeQ (s:List pair):Wy0 (Int):=.bn (ziY (s.length+(Int.ofNat s.length).toNat +Int.toNat 0+1000) s (Int.ofNat s.length) 0) fun r2=>.i (isL r2) (.k (getL r2)) (.k (-1:Int))
def zcJ (s:List pair):Bool×Int:=(zeQ s).fin default
def zei (r:Int):ARes ty:=⟨[.pure (.lit (.int .i64 r))],[]⟩
def zeP:AL base (List pair×Unit×Unit):=zf (zg (vSl 147)) (zf (zg (vFn 106 vNil)) aNil)
def zd7:Ab.Spec ty:=zk zeP fun x=>((zcJ x.1).1,zei (zcJ x.1).2)
theorem zir:Sound Tryz.prog base 135 zd7:=
 zr (cx':=zeB) zF zm zB (zu ⟨zkG,trivial⟩) Tryz.call135 Tryz.func135 (c:=body Tryz.f135) (by kernel_rfl) (zh (l:=[lp (body Tryz.f135) 0]) (by kernel_rfl) ⟨ziP,trivial⟩) (sg:=⟨[.pure],[]⟩) (A:=zeP) (res:=zei) (W:=fun x=>zeQ x.1) (z:=default)
def ziw:Cx ty:=mkCx base 9 [(106,ziH),(135,zd7)] [] [] [] [] []
def zd9 (s:List pair):Wy0 (Bool):=.bn (zcJ s) fun r0=>.k (decide (r0≥0))
def zcn (s:List pair):Bool×Bool:=(zd9 s).fin default
def zdI (r:Bool):ARes ty:=⟨[.pure (.lit (.bool r))],[]⟩
def zd6:AL base (List pair×Unit×Unit):=zf (zg (vSl 147)) (zf (zg (vFn 106 vNil)) aNil)
def zdA:Ab.Spec ty:=zk zd6 fun x=>((zcn x.1).1,zdI (zcn x.1).2)
theorem zhT:Sound Tryz.prog base 104 zdA:=
 zr (cx':=ziw) zF zm zB (zu ⟨zkG,zir,trivial⟩) Tryz.call104 Tryz.func104 (c:=body Tryz.f104) (by kernel_rfl) (zh (l:=[]) (by kernel_rfl) trivial) (sg:=⟨[.pure],[]⟩) (A:=zd6) (res:=zdI) (W:=fun x=>zd9 x.1) (z:=default)
def zCJ:Cx ty:=mkCx base 17 [(104,zdA),(105,zu8),(106,ziH)] [] [] [] [] []
def zxb (l:List Column) (row:List Value):Wy0 (Bool):=.i (Int.ofNat l.length==Int.ofNat row.length) (.bn (zvP l row) fun r1=>.bn (zcn r1) fun r0=>.k (!r0)) (.k false)
def zuu (l:List Column) (row:List Value):Bool×Bool:=(zxb l row).fin default
def zu6 (r:Bool):ARes ty:=⟨[.pure (.lit (.bool r))],[]⟩
def zxd:AL base (List Column×List Value×Unit):=zf (zg (vSl 67)) (zf (zg (vSl 40)) aNil)
def ztP:Ab.Spec ty:=zk zxd fun x=>((zuu x.1 x.2.1).1,zu6 (zuu x.1 x.2.1).2)
theorem zAH:Sound Tryz.prog base 68 ztP:=
 zr (cx':=zCJ) zF zm zB (zu ⟨zhT,zBE,zkG,trivial⟩) Tryz.call68 Tryz.func68 (c:=body Tryz.f68) (by kernel_rfl) (zh (l:=[]) (by kernel_rfl) trivial) (sg:=⟨[.pure],[]⟩) (A:=zxd) (res:=zu6) (W:=fun x=>zxb x.1 x.2.1) (z:=default)
def zEk:Cx ty:=mkCx base 2 [] [] [] [] [] []
def zAg:Wy0 (List ByteArray):=.k [ByteArray.mk #[(73:UInt8),(78:UInt8),(84:UInt8),(69:UInt8),(71:UInt8),(69:UInt8),(82:UInt8)],ByteArray.mk #[(84:UInt8),(69:UInt8),(88:UInt8),(84:UInt8)],ByteArray.mk #[(66:UInt8),(79:UInt8),(79:UInt8),(76:UInt8),(69:UInt8),(65:UInt8),(78:UInt8)]]
def ztr:Bool×List ByteArray:=(zAg).fin default
def zxz (r:List ByteArray):ARes ty:=⟨[.own 9 r],[]⟩
def zAf:AL base (Unit):=aNil
def zwh:Ab.Spec ty:=zk zAf fun x=>((ztr ).1,zxz (ztr ).2)
theorem zB0:Sound Tryz.prog base 134 zwh:=
 zr (cx':=zEk) zF zm zB (zu trivial) Tryz.call134 Tryz.func134 (c:=body Tryz.f134) (by kernel_rfl) (zh (l:=[]) (by kernel_rfl) trivial) (sg:=⟨[.own 9],[]⟩) (A:=zAf) (res:=zxz) (W:=fun x=>zAg ) (z:=default)
def zB1:Cx ty:=mkCx base 13 [(134,zwh)] [] [] [] [] []
def zv3 (kind:Int):Wy0 (ByteArray):=.i (decide (kind<0)) (.k (ByteArray.mk #[])) (.i (decide (kind>2)) (.k (ByteArray.mk #[])) (.i (decide (0≤kind)&&decide (kind<Int.ofNat ztr.2.length)) (.k (ztr.2.getD kind.toNat default)) .d))
def zs1 (kind:Int):Bool×ByteArray:=(zv3 kind).fin default
def ztD (r:ByteArray):ARes ty:=⟨[.pure (.lit (.string r))],[]⟩
def zwy:AL base (Int×Unit):=zf (zg (vInt .i64)) aNil
def zsD:Ab.Spec ty:=zk zwy fun x=>((zs1 x.1).1,ztD (zs1 x.1).2)
theorem zzN:Sound Tryz.prog base 103 zsD:=
 zr (cx':=zB1) zF zm zB (zu ⟨zB0,trivial⟩) Tryz.call103 Tryz.func103 (c:=body Tryz.f103) (by kernel_rfl) (zh (l:=[]) (by kernel_rfl) trivial) (sg:=⟨[.pure],[]⟩) (A:=zwy) (res:=ztD) (W:=fun x=>zv3 x.1) (z:=default)
def zt6:Cx ty:=mkCx base 7 [(103,zsD)] [] [] [] [] []
def zm2 (c:Column):Wy0 (Bool):=.bn (zs1 c.Type_) fun r0=>.k (r0.toList==(ByteArray.mk #[]).toList)
def zjI (c:Column):Bool×Bool:=(zm2 c).fin default
def zln (r:Bool):ARes ty:=⟨[.pure (.lit (.bool r))],[]⟩
def zmL:AL base (Column×Unit):=zf (zg (vAgg 67)) aNil
def ze8:Ab.Spec ty:=zk zmL fun x=>((zjI x.1).1,zln (zjI x.1).2)
theorem zhl:Sound Tryz.prog base 102 ze8:=
 zr (cx':=zt6) zF zm zB (zu ⟨zzN,trivial⟩) Tryz.call102 Tryz.func102 (c:=body Tryz.f102) (by kernel_rfl) (zh (l:=[]) (by kernel_rfl) trivial) (sg:=⟨[.pure],[]⟩) (A:=zmL) (res:=zln) (W:=fun x=>zm2 x.1) (z:=default)
abbrev ttTslicesIndexFuncLapiColumnapiColumnvc0:=List Column×Unit×Int×Int×Unit
def zku (s:List Column) (t7:Int) (t8:Int):Wy ttTslicesIndexFuncLapiColumnapiColumnvc0 (Unit) (Int⊕Unit):=.i (decide (t8<t7)) (.i (decide (0≤t8)&&decide (t8<Int.ofNat s.length)) (.bn (zjI (s.getD t8.toNat default)) fun r0=>.i (r0) (.k (.inl t8)) (.h (s,(),t7,(IntKind.i64.wrap (t8+1)),()) ())) .d) (.k (.inr ()))
def zc0 (x:ttTslicesIndexFuncLapiColumnapiColumnvc0) (y:Unit):Wy ttTslicesIndexFuncLapiColumnapiColumnvc0 (Unit) (Int⊕Unit):=zku x.1 x.2.2.1 x.2.2.2.1
def zki (n:Nat) (s:List Column) (t7:Int) (t8:Int):Bool×(Int⊕Unit):=zP (zc0) (.inl default) n (s,(),t7,t8,()) ()
def zf6 (r:Int⊕Unit):LTree ty:=.ite (isL r) (.done .ret [.lit (.int .i64 (getL r))] []) (.done (.exit 0) [] [])
def zgg:LL ty ttTslicesIndexFuncLapiColumnapiColumnvc0:=za (lSl 67) (za (lFn 102 (zD)) (za (lInt .i64) (za (lInt .i64) zD)))
def zgc:BL ty (Unit):=bNil
def zf2 (x:ttTslicesIndexFuncLapiColumnapiColumnvc0) (y:Unit):Nat:=(x.1.length+Int.toNat x.2.2.1+Int.toNat x.2.2.2.1+1000)
def zgk:Cx ty:=mkCx base 19 [(102,ze8)] [] [(2,[(0,.keep),(1,.keep),(7,.keep),(8,.keep)])] [(2,1,[]),(2,0,[(4,.keep)])] [(2,spW zgg zgc (zc0) (.inl default) zf6 zf2)] []
theorem zj8:zW zgk (lp (body Tryz.f133) 0):=zK (id:=2) (V:=zgg) (B:=zgc) (W:=zc0) (z:=.inl default) (tr:=zf6) (m:=zf2)
def zgv (s:List Column):Wy0 (Int):=.bn (zki (s.length+(Int.ofNat s.length).toNat +Int.toNat 0+1000) s (Int.ofNat s.length) 0) fun r2=>.i (isL r2) (.k (getL r2)) (.k (-1:Int))
def zdu (s:List Column):Bool×Int:=(zgv s).fin default
def zfZ (r:Int):ARes ty:=⟨[.pure (.lit (.int .i64 r))],[]⟩
def zgy:AL base (List Column×Unit×Unit):=zf (zg (vSl 67)) (zf (zg (vFn 102 vNil)) aNil)
def zfy:Ab.Spec ty:=zk zgy fun x=>((zdu x.1).1,zfZ (zdu x.1).2)
theorem zjV:Sound Tryz.prog base 133 zfy:=
 zr (cx':=zgk) zF zm zB (zu ⟨zhl,trivial⟩) Tryz.call133 Tryz.func133 (c:=body Tryz.f133) (by kernel_rfl) (zh (l:=[lp (body Tryz.f133) 0]) (by kernel_rfl) ⟨zj8,trivial⟩) (sg:=⟨[.pure],[]⟩) (A:=zgy) (res:=zfZ) (W:=fun x=>zgv x.1) (z:=default)
def zjK:Cx ty:=mkCx base 9 [(102,ze8),(133,zfy)] [] [] [] [] []
def zfz (s:List Column):Wy0 (Bool):=.bn (zdu s) fun r0=>.k (decide (r0≥0))
def zc1 (s:List Column):Bool×Bool:=(zfz s).fin default
def ze2 (r:Bool):ARes ty:=⟨[.pure (.lit (.bool r))],[]⟩
def zfH:AL base (List Column×Unit×Unit):=zf (zg (vSl 67)) (zf (zg (vFn 102 vNil)) aNil)
def zeN:Ab.Spec ty:=zk zfH fun x=>((zc1 x.1).1,ze2 (zc1 x.1).2)
theorem zi6:Sound Tryz.prog base 101 zeN:=
 zr (cx':=zjK) zF zm zB (zu ⟨zhl,zjV,trivial⟩) Tryz.call101 Tryz.func101 (c:=body Tryz.f101) (by kernel_rfl) (zh (l:=[]) (by kernel_rfl) trivial) (sg:=⟨[.pure],[]⟩) (A:=zfH) (res:=ze2) (W:=fun x=>zfz x.1) (z:=default)
def zwB:Cx ty:=mkCx base 11 [(101,zeN),(102,ze8)] [] [] [] [] []
def zoF (l:List Column):Wy0 (Bool):=.i (decide (Int.ofNat l.length≤16)) (.bn (zc1 l) fun r0=>.k (!r0)) (.k false)
def zlA (l:List Column):Bool×Bool:=(zoF l).fin default
def znD (r:Bool):ARes ty:=⟨[.pure (.lit (.bool r))],[]⟩
def zo0:AL base (List Column×Unit):=zf (zg (vSl 67)) aNil
def zmJ:Ab.Spec ty:=zk zo0 fun x=>((zlA x.1).1,znD (zlA x.1).2)
theorem ztW:Sound Tryz.prog base 67 zmJ:=
 zr (cx':=zwB) zF zm zB (zu ⟨zi6,zhl,trivial⟩) Tryz.call67 Tryz.func67 (c:=body Tryz.f67) (by kernel_rfl) (zh (l:=[]) (by kernel_rfl) trivial) (sg:=⟨[.pure],[]⟩) (A:=zo0) (res:=znD) (W:=fun x=>zoF x.1) (z:=default)
def zcK:Cx ty:={ base with nt:=8 }
def zfO (s:List Column):Bool×List Column:=(decide (s.length*24≤reach),s)
def zhq:Ab.Spec ty:=zk (cx:=base) (zf (zg (vSl 67)) aNil) fun x=>((zfO x.1).1,⟨[.own 67 (zfO x.1).2],[]⟩)
theorem zmP:ze9 zcK Tryz.f75 (body Tryz.f75) ⟨[.own 67],[]⟩ [.pure (.lit (.slice none 0 0))]=some ⟨[.own 67 []],[]⟩:=by kernel_rfl
theorem zlJ (p:Addr) (c:Nat):ze9 zcK Tryz.f75 (body Tryz.f75) ⟨[.own 67],[]⟩ [.pure (.lit (.slice (some p) 0 c))]=some ⟨[.own 67 []],[]⟩:=by kernel_rfl
theorem zmC (l:List Column):ze9 zcK Tryz.f75 (body Tryz.f75) ⟨[.own 67],[]⟩ [.pure (.sl 67 l)]=bif !l.isEmpty then bif decide ((([]:List (ty 67)).length+l.length)*24≤reach) then some ⟨[.own 67 l],[]⟩ else none else none:=by kernel_rfl
theorem zlI:Sound Tryz.prog base 75 zhq:=
 ztt (cx':=zcK) (bytes:=24) zF zm ⟨⟨rfl,rfl,rfl,rfl,rfl,rfl⟩,rfl⟩ (fun g s h=>by cases h) Tryz.call75 Tryz.func75 (c:=body Tryz.f75) (by kernel_rfl) (zh (l:=[]) (by kernel_rfl) trivial) zmP zlJ zmC (by kernel_rfl)
def zd3:Cx ty:={ base with nt:=8 }
def zhF (s:List Row):Bool×List Row:=(decide (s.length*48≤reach),s)
def zi7:Ab.Spec ty:=zk (cx:=base) (zf (zg (vSl 38)) aNil) fun x=>((zhF x.1).1,⟨[.own 38 (zhF x.1).2],[]⟩)
theorem zpx:ze9 zd3 Tryz.f71 (body Tryz.f71) ⟨[.own 38],[]⟩ [.pure (.lit (.slice none 0 0))]=some ⟨[.own 38 []],[]⟩:=by kernel_rfl
theorem zop (p:Addr) (c:Nat):ze9 zd3 Tryz.f71 (body Tryz.f71) ⟨[.own 38],[]⟩ [.pure (.lit (.slice (some p) 0 c))]=some ⟨[.own 38 []],[]⟩:=by kernel_rfl
theorem zo9 (l:List Row):ze9 zd3 Tryz.f71 (body Tryz.f71) ⟨[.own 38],[]⟩ [.pure (.sl 38 l)]=bif !l.isEmpty then bif decide ((([]:List (ty 38)).length+l.length)*48≤reach) then some ⟨[.own 38 l],[]⟩ else none else none:=by kernel_rfl
theorem zow:Sound Tryz.prog base 71 zi7:=
 ztt (cx':=zd3) (bytes:=48) zF zm ⟨⟨rfl,rfl,rfl,rfl,rfl,rfl⟩,rfl⟩ (fun g s h=>by cases h) Tryz.call71 Tryz.func71 (c:=body Tryz.f71) (by kernel_rfl) (zh (l:=[]) (by kernel_rfl) trivial) zpx zop zo9 (by kernel_rfl)
end Go.Proofs.YtddkaehkimnklaaGreatDoor
end
