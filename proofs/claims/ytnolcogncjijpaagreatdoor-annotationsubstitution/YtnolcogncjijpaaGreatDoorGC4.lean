/- Texts of this claim, joined (the program, its functions in plain words, and what they compute). -/
import Derived.WalkKit
import Derived.WalkSpells
import Derived.Test.YtnolcogncjijpaaGreatDoorGC1
import Derived.Test.YtnolcogncjijpaaGreatDoorGA2
import Derived.Test.YtnolcogncjijpaaGreatDoorGC3
import Derived.Test.YtnolcogncjijpaaGreatDoorGC2
import Derived.Test.YtnolcogncjijpaaGreatDoorGB1
set_option autoImplicit false
set_option linter.unusedVariables false
set_option linter.unusedSectionVars false
set_option linter.unusedSimpArgs false
set_option maxRecDepth 1000000
set_option maxHeartbeats 0
noncomputable section
namespace Go.Proofs.YtnolcogncjijpaaGreatDoor
open Go Go.Ab
abbrev ttTslicesIndexFuncLapiBindingapiBindings20:=List Binding×(RowID×Unit)×Int×Int×Unit
def zny (s:List Binding) (f:RowID) (t7:Int) (t8:Int):Wy ttTslicesIndexFuncLapiBindingapiBindings20 (Unit) (Int⊕Unit):=.i (decide (t8<t7)) (.i (decide (0≤t8)&&decide (t8<Int.ofNat s.length)) (.i ((zeU (s.getD t8.toNat default) f).2) (.k (.inl t8)) (.h (s,(f,()),t7,(IntKind.i64.wrap (t8+1)),()) ())) .d) (.k (.inr ()))
def zd5 (x:ttTslicesIndexFuncLapiBindingapiBindings20) (y:Unit):Wy ttTslicesIndexFuncLapiBindingapiBindings20 (Unit) (Int⊕Unit):=zny x.1 x.2.1.1 x.2.2.1 x.2.2.2.1
def znB (n:Nat) (s:List Binding) (f:RowID) (t7:Int) (t8:Int):Bool×(Int⊕Unit):=zX (zd5) (.inl default) n (s,(f,()),t7,t8,()) ()
def zgN (r:Int⊕Unit):LTree ty:=.ite (isL r) (.done .ret [.lit (.int .i64 (getL r))] []) (.done (.exit 0) [] [])
def zhi:LL ty ttTslicesIndexFuncLapiBindingapiBindings20:=za (lSl 69) (za (lFn 95 (za (zAp (zgz (fun x=>(⟨x.1,x.2.1⟩:RowID)) (fun x=>(x.Table,x.Seq,())) (fun _=>rfl) (za (lInt .i64) (za (lInt .i64) zH))) 0) zH)) (za (lInt .i64) (za (lInt .i64) zH)))
def zhh:BL ty (Unit):=bNil
def zgQ (x:ttTslicesIndexFuncLapiBindingapiBindings20) (y:Unit):Nat:=(x.1.length+Int.toNat x.2.2.1+Int.toNat x.2.2.2.1+1)
def zhm:Cx ty:=mkCx base 19 [(95,ziA)] [] [(2,[(0,.keep),(1,.keep),(7,.keep),(8,.keep)])] [(2,1,[]),(2,0,[(4,.keep)])] [(2,spW zhi zhh (zd5) (.inl default) zgN zgQ)] []
theorem zni:zW zhm (lp (body Tryz.f94) 0):=zK (id:=2) (V:=zhi) (B:=zhh) (W:=zd5) (z:=.inl default) (tr:=zgN) (m:=zgQ)
def zhQ (s:List Binding) (f:RowID):Wy0 (Int):=.bn (znB (s.length+(Int.ofNat s.length).toNat +Int.toNat 0+1) s f (Int.ofNat s.length) 0) fun r0=>.i (isL r0) (.k (getL r0)) (.k (-1:Int))
def zb9 (s:List Binding) (f:RowID):Bool×Int:=(zhQ s f).fin default
def zgE (r:Int):ARes ty:=⟨[.pure (.lit (.int .i64 r))],[]⟩
def zhx:AL base (List Binding×(RowID×Unit)×Unit):=zf (zg (vSl 69)) (zf (zg (vFn 95 (ztH (zPk 25) vNil))) aNil)
def zgl:Ab.Spec ty:=zk zhx fun x=>((zb9 x.1 x.2.1.1).1,zgE (zb9 x.1 x.2.1.1).2)
theorem zms:Sound Tryz.prog base 94 zgl:=
 zn (cx':=zhm) zJ zl zw (zm ⟨zmz,trivial⟩) Tryz.call94 Tryz.func94 (c:=body Tryz.f94) (by kernel_rfl) (zh (l:=[lp (body Tryz.f94) 0]) (by kernel_rfl) ⟨zni,trivial⟩) (sg:=⟨[.pure],[]⟩) (A:=zhx) (res:=zgE) (W:=fun x=>zhQ x.1 x.2.1.1) (z:=default)
def zBm:Cx ty:=mkCx base 18 [(27,zrE),(61,annotation_copied_spec),(94,zgl),(95,ziA)] [] [] [] [] []
def zlK (id:RowID) (p1:List Binding):Wy0 (List Term):=.bn (zb9 p1 id) fun r2=>.i (decide (r2≥0)) (.i (decide (0≤r2)&&decide (r2<Int.ofNat p1.length)) (.bn (zfG (p1.getD r2.toNat default).To) fun r0=>.k r0) .d) (.bn (zpG id) fun r1=>.k r1)
def zgF (id:RowID) (p1:List Binding):Bool×List Term:=(zlK id p1).fin default
def zpv (r:List Term):ARes ty:=⟨[.own 42 r],[]⟩
def zq2:AL base (RowID×(List Binding×Unit)×Unit):=zf (zg (vAgg 25)) (zf (zg (vBox (ztH (vSl 69) vNil))) aNil)
def zgy:Ab.Spec ty:=zk zq2 fun x=>((zgF x.1 x.2.1.1).1,zpv (zgF x.1 x.2.1.1).2)
theorem zjz:Sound Tryz.prog base 93 zgy:=
 zn (cx':=zBm) zJ zl zw (zm ⟨zxt,zhK,zms,zmz,trivial⟩) Tryz.call93 Tryz.func93 (c:=body Tryz.f93) (by kernel_rfl) (zh (l:=[]) (by kernel_rfl) trivial) (sg:=⟨[.own 42],[]⟩) (A:=zq2) (res:=zpv) (W:=fun x=>zlK x.1 x.2.1.1) (z:=default)
abbrev ttTannotationreplace0:=((List Binding×Unit)×Unit)×Unit×Unit×List Term×Int×List Term×Int×Int×List Factor×Int×Int×Int×Int×Unit
abbrev ttTannotationreplace1:=List Term×List Term×Unit
abbrev ttTannotationreplace2:=List Binding×Int×List Term×Int×Int×List Factor×Int×Int×List Term×List Term
abbrev ttTannotationreplace3:=((List Binding×Unit)×Unit)×Unit×Unit×List Term×Int×Int×List Factor×Int×Int×Unit
abbrev ttTannotationreplace4:=Int⊕(List Binding×List Term×Int×Int×List Term×List Term)
abbrev ttTannotationreplace5:=((List Binding×Unit)×Unit)×Unit×List Term×Int×Int×Unit
abbrev ttTannotationreplace6:=List Term×Unit
abbrev ttTannotationreplace7:=Int⊕List Term
def znl (zj:Atom→List Binding→Bool×(List Term×Int)) (to:List Binding) (b:List Term) (e:Int) (t16:List Term) (t17:Int) (t18:Int) (t26:List Factor) (t27:Int) (t28:Int) (t40:Int) (t41:Int) (sum:List Term) (product:List Term):Wy ttTannotationreplace0 ttTannotationreplace1 ttTannotationreplace2:=.i (decide (t41<t40)) (.i (e==0) (.bn (zo9 product b) fun r6=>.h (((to,()),()),(),(),b,(r6.2),t16,t17,t18,t26,t27,t28,t40,(IntKind.i64.wrap (t41+1)),()) (sum,(r6.1),())) (.h (((to,()),()),(),(),b,e,t16,t17,t18,t26,t27,t28,t40,(IntKind.i64.wrap (t41+1)),()) (sum,product,()))) (.k (to,e,t16,t17,t18,t26,t27,t28,sum,product))
def zm5 (zj:Atom→List Binding→Bool×(List Term×Int)) (x:ttTannotationreplace0) (y:ttTannotationreplace1):Wy ttTannotationreplace0 ttTannotationreplace1 ttTannotationreplace2:=znl zj x.1.1.1 x.2.2.2.1 x.2.2.2.2.1 x.2.2.2.2.2.1 x.2.2.2.2.2.2.1 x.2.2.2.2.2.2.2.1 x.2.2.2.2.2.2.2.2.1 x.2.2.2.2.2.2.2.2.2.1 x.2.2.2.2.2.2.2.2.2.2.1 x.2.2.2.2.2.2.2.2.2.2.2.1 x.2.2.2.2.2.2.2.2.2.2.2.2.1 y.1 y.2.1
def zmY (zj:Atom→List Binding→Bool×(List Term×Int)) (n:Nat) (to:List Binding) (b:List Term) (e:Int) (t16:List Term) (t17:Int) (t18:Int) (t26:List Factor) (t27:Int) (t28:Int) (t40:Int) (t41:Int) (sum:List Term) (product:List Term):Bool×ttTannotationreplace2:=zX (zm5 zj) default n (((to,()),()),(),(),b,e,t16,t17,t18,t26,t27,t28,t40,t41,()) (sum,product,())
def zrP (r:ttTannotationreplace2):LTree ty:=.done (.exit 4) [.fn 93 ([.bptr ([.sl 69 r.1]) 0]),.own 272,.own 273,.lit (.int .i64 r.2.1),.sl 42 r.2.2.1,.lit (.int .i64 r.2.2.2.1),.lit (.int .i64 r.2.2.2.2.1),.sl 50 r.2.2.2.2.2.1,.lit (.int .i64 r.2.2.2.2.2.2.1),.lit (.int .i64 r.2.2.2.2.2.2.2.1)] [.arr 42 r.2.2.2.2.2.2.2.2.1 false,.arr 42 r.2.2.2.2.2.2.2.2.2 false]
def zsL:LL ty ttTannotationreplace0:=za (lFn 93 (za (zAp (za (lSl 69) zH) 0) zH)) (za (lOwn 272) (za (lOwn 273) (za (lSl 42) (za (lInt .i64) (za (lSl 42) (za (lInt .i64) (za (lInt .i64) (za (lSl 50) (za (lInt .i64) (za (lInt .i64) (za (lInt .i64) (za (lInt .i64) zH))))))))))))
def zs1:BL ty ttTannotationreplace1:=bArr 42 false (bArr 42 false (bNil))
def znS (zj:Atom→List Binding→Bool×(List Term×Int)) (to:List Binding) (t16:List Term) (t17:Int) (t18:Int) (t26:List Factor) (t27:Int) (t28:Int) (sum:List Term) (product:List Term):Wy ttTannotationreplace3 ttTannotationreplace1 ttTannotationreplace4:=.i (decide (t28<t27)) (.i (decide (0≤t28)&&decide (t28<Int.ofNat t26.length)) (.bn (zj (Atom.mk (t26.getD t28.toNat default).Atom.Kind (t26.getD t28.toNat default).Atom.Row (t26.getD t28.toNat default).Atom.Args (t26.getD t28.toNat default).Atom.Func (t26.getD t28.toNat default).Atom.Items (t26.getD t28.toNat default).Atom.Op (t26.getD t28.toNat default).Atom.Bound) to) fun r9=>.bn (zmY zj (to.length+r9.1.length+r9.2.toNat +t16.length+t17.toNat +t18.toNat +t26.length+t27.toNat +t28.toNat +(t26.getD t28.toNat default).Exp.toNat +Int.toNat 0+sum.length+product.length+1) to r9.1 r9.2 t16 t17 t18 t26 t27 t28 (t26.getD t28.toNat default).Exp 0 sum product) fun r8=>.i (r8.2.1 != 0) (.k (.inl (r8.2.1))) (.h ((((r8.1),()),()),(),(),(r8.2.2.1),(r8.2.2.2.1),(r8.2.2.2.2.1),(r8.2.2.2.2.2.1),(r8.2.2.2.2.2.2.1),(IntKind.i64.wrap (r8.2.2.2.2.2.2.2.1+1)),()) ((r8.2.2.2.2.2.2.2.2.1),(r8.2.2.2.2.2.2.2.2.2),()))) .d) (.k (.inr (to,t16,t17,t18,sum,product)))
def znW (zj:Atom→List Binding→Bool×(List Term×Int)) (x:ttTannotationreplace3) (y:ttTannotationreplace1):Wy ttTannotationreplace3 ttTannotationreplace1 ttTannotationreplace4:=znS zj x.1.1.1 x.2.2.2.1 x.2.2.2.2.1 x.2.2.2.2.2.1 x.2.2.2.2.2.2.1 x.2.2.2.2.2.2.2.1 x.2.2.2.2.2.2.2.2.1 y.1 y.2.1
def znJ (zj:Atom→List Binding→Bool×(List Term×Int)) (n:Nat) (to:List Binding) (t16:List Term) (t17:Int) (t18:Int) (t26:List Factor) (t27:Int) (t28:Int) (sum:List Term) (product:List Term):Bool×ttTannotationreplace4:=zX (znW zj) (.inl default) n (((to,()),()),(),(),t16,t17,t18,t26,t27,t28,()) (sum,product,())
def zth (r:ttTannotationreplace4):LTree ty:=.ite (isL r) (.done .ret [.lit (.slice none 0 0),.lit (.int .i64 (getL r))] []) (.done (.exit 2) [.fn 93 ([.bptr ([.sl 69 (getR r).1]) 0]),.own 272,.own 273,.sl 42 (getR r).2.1,.lit (.int .i64 (getR r).2.2.1),.lit (.int .i64 (getR r).2.2.2.1)] [.arr 42 (getR r).2.2.2.2.1 false,.arr 42 (getR r).2.2.2.2.2 false])
def zt3:LL ty ttTannotationreplace3:=za (lFn 93 (za (zAp (za (lSl 69) zH) 0) zH)) (za (lOwn 272) (za (lOwn 273) (za (lSl 42) (za (lInt .i64) (za (lInt .i64) (za (lSl 50) (za (lInt .i64) (za (lInt .i64) zH))))))))
def ztV:BL ty ttTannotationreplace1:=bArr 42 false (bArr 42 false (bNil))
def znF (zj:Atom→List Binding→Bool×(List Term×Int)) (to:List Binding) (t16:List Term) (t17:Int) (t18:Int) (sum:List Term):Wy ttTannotationreplace5 ttTannotationreplace6 ttTannotationreplace7:=.i (decide (t18<t17)) (.i (decide (0≤t18)&&decide (t18<Int.ofNat t16.length)) (.bn (znn (t16.getD t18.toNat default).Coeff) fun r14=>.bn (znJ zj (to.length+t16.length+t17.toNat +t18.toNat +(t16.getD t18.toNat default).Factors.length+(Int.ofNat (t16.getD t18.toNat default).Factors.length).toNat +Int.toNat 0+sum.length+r14.length+1) to t16 t17 t18 (t16.getD t18.toNat default).Factors (Int.ofNat (t16.getD t18.toNat default).Factors.length) 0 sum r14) fun r13=>.i (isL r13) (.k (.inl (getL r13))) (.bn (zpr (getR r13).2.2.2.2.1 (getR r13).2.2.2.2.2) fun r12=>.i (r12.2 != 0) (.k (.inl (r12.2))) (.h ((((getR r13).1,()),()),(),(getR r13).2.1,(getR r13).2.2.1,(IntKind.i64.wrap ((getR r13).2.2.2.1+1)),()) ((r12.1),())))) .d) (.k (.inr sum))
def znI (zj:Atom→List Binding→Bool×(List Term×Int)) (x:ttTannotationreplace5) (y:ttTannotationreplace6):Wy ttTannotationreplace5 ttTannotationreplace6 ttTannotationreplace7:=znF zj x.1.1.1 x.2.2.1 x.2.2.2.1 x.2.2.2.2.1 y.1
def znG (zj:Atom→List Binding→Bool×(List Term×Int)) (n:Nat) (to:List Binding) (t16:List Term) (t17:Int) (t18:Int) (sum:List Term):Bool×ttTannotationreplace7:=zX (znI zj) (.inl default) n (((to,()),()),(),t16,t17,t18,()) (sum,())
def ztc (r:ttTannotationreplace7):LTree ty:=.ite (isL r) (.done .ret [.lit (.slice none 0 0),.lit (.int .i64 (getL r))] []) (.done (.exit 0) [.own 272] [.arr 42 (getR r) false])
def zt5:LL ty ttTannotationreplace5:=za (lFn 93 (za (zAp (za (lSl 69) zH) 0) zH)) (za (lOwn 272) (za (lSl 42) (za (lInt .i64) (za (lInt .i64) zH))))
def zua:BL ty ttTannotationreplace6:=bArr 42 false (bNil)
def zrZ (x:ttTannotationreplace0) (y:ttTannotationreplace1):Nat:=(x.1.1.1.length+x.2.2.2.1.length+Int.toNat x.2.2.2.2.1+x.2.2.2.2.2.1.length+Int.toNat x.2.2.2.2.2.2.1+Int.toNat x.2.2.2.2.2.2.2.1+x.2.2.2.2.2.2.2.2.1.length+Int.toNat x.2.2.2.2.2.2.2.2.2.1+Int.toNat x.2.2.2.2.2.2.2.2.2.2.1+Int.toNat x.2.2.2.2.2.2.2.2.2.2.2.1+Int.toNat x.2.2.2.2.2.2.2.2.2.2.2.2.1+y.1.length+y.2.1.length+1)
def ztw (x:ttTannotationreplace3) (y:ttTannotationreplace1):Nat:=(x.1.1.1.length+x.2.2.2.1.length+Int.toNat x.2.2.2.2.1+Int.toNat x.2.2.2.2.2.1+x.2.2.2.2.2.2.1.length+Int.toNat x.2.2.2.2.2.2.2.1+Int.toNat x.2.2.2.2.2.2.2.2.1+y.1.length+y.2.1.length+1)
def ztv (x:ttTannotationreplace5) (y:ttTannotationreplace6):Nat:=(x.1.1.1.length+x.2.2.1.length+Int.toNat x.2.2.2.1+Int.toNat x.2.2.2.2.1+y.1.length+1)
def zke (zj:Atom→List Binding→Bool×(List Term×Int)):Cx ty:=mkCx base0 68 [(13,zrz),(16,zrG),(25,zpJ),(93,zgy),(140,(zjg zj))] [] [(3,[(1,.keep),(6,.own 42),(16,.keep),(17,.keep),(18,.keep)]),(7,[(1,.keep),(6,.keep),(9,.keep),(16,.keep),(17,.keep),(18,.keep),(26,.keep),(27,.keep),(28,.keep)]),(11,[(1,.keep),(6,.keep),(9,.keep),(12,.sl 42),(13,.keep),(16,.keep),(17,.keep),(18,.keep),(26,.keep),(27,.keep),(28,.keep),(40,.keep),(41,.keep)])] [(3,1,[(6,.keep)]),(3,0,[(4,.keep),(5,.keep)]),(7,3,[(1,.keep),(6,.keep),(9,.keep),(16,.keep),(17,.keep),(18,.keep)]),(7,0,[(4,.keep),(5,.keep)]),(11,5,[(1,.keep),(6,.keep),(9,.keep),(13,.keep),(16,.keep),(17,.keep),(18,.keep),(26,.keep),(27,.keep),(28,.keep)])] [(11,spW zsL zs1 (zm5 zj) default zrP zrZ),(7,spW zt3 ztV (znW zj) (.inl default) zth ztw),(3,spW zt5 zua (znI zj) (.inl default) ztc ztv)] []
theorem zDc (zj:Atom→List Binding→Bool×(List Term×Int)):zW (zke zj) (lp (body Tryz.f92) 2):=zK (id:=11) (V:=zsL) (B:=zs1) (W:=zm5 zj) (z:=default) (tr:=zrP) (m:=zrZ)
theorem zDZ (zj:Atom→List Binding→Bool×(List Term×Int)):zW (zke zj) (lp (body Tryz.f92) 1):=zK (id:=7) (V:=zt3) (B:=ztV) (W:=znW zj) (z:=.inl default) (tr:=zth) (m:=ztw)
theorem zET (zj:Atom→List Binding→Bool×(List Term×Int)):zW (zke zj) (lp (body Tryz.f92) 0):=zK (id:=3) (V:=zt5) (B:=zua) (W:=znI zj) (z:=.inl default) (tr:=ztc) (m:=ztv)
def zox (zj:Atom→List Binding→Bool×(List Term×Int)) (a:List Term) (to:List Binding):Wy0 (List Term×Int):=.bn (znG zj (to.length+a.length+(Int.ofNat a.length).toNat +Int.toNat 0+0+1) to a (Int.ofNat a.length) 0 []) fun r18=>.i (isL r18) (.k ([],getL r18)) (.k (getR r18,0))
def zjH (zj:Atom→List Binding→Bool×(List Term×Int)) (a:List Term) (to:List Binding):Bool×(List Term×Int):=(zox zj a to).fin default
theorem zBK (zj:Atom→List Binding→Bool×(List Term×Int)) (zBS:Sound Tryz.prog base0 140 (zjg zj)):Sound Tryz.prog base0 92 (zjt (zjH zj)):=
 zn (cx':=(zke zj)) zJ ziw zw (zm ⟨zxu,zx0,zuV.nodr,zjz.nodr,zBS,trivial⟩) Tryz.call92 Tryz.func92 (c:=body Tryz.f92) (by kernel_rfl) (zh (l:=[lp (body Tryz.f92) 0,lp (body Tryz.f92) 1,lp (body Tryz.f92) 2]) (by kernel_rfl) ⟨zET zj,zDZ zj,zDc zj,trivial⟩) (sg:=⟨[.own 42,.pure],[]⟩) (A:=zxV) (res:=zuQ) (W:=fun x=>zox zj x.1 x.2.1.1.1) (z:=default)
def zNf:Cx ty:=mkCx base 3 [] [] [] [] [] []
def zES:Wy0 (List Term):=.k [TermOf.mk 1 []]
def zpd:Bool×List Term:=(zES).fin default
def zA2 (r:List Term):ARes ty:=⟨[.own 42 r],[]⟩
def zEF:AL base (Unit):=aNil
def znt:Ab.Spec ty:=zk zEF fun x=>((zpd ).1,zA2 (zpd ).2)
theorem zqq:Sound Tryz.prog base 29 znt:=
 zn (cx':=zNf) zJ zl zw (zm trivial) Tryz.call29 Tryz.func29 (c:=body Tryz.f29) (by kernel_rfl) (zh (l:=[]) (by kernel_rfl) trivial) (sg:=⟨[.own 42],[]⟩) (A:=zEF) (res:=zA2) (W:=fun x=>zES ) (z:=default)
def zJj:Cx ty:=mkCx base 23 [(29,znt),(31,annotation_Valid_spec),(53,zed),(62,zfz),(68,zkQ)] [] [] [] [] []
def zrw (a:List Term):Wy0 (List Term×Int):=.bn (zci a) fun r2=>.i (!r2) (.k ([],1)) (.i (Int.ofNat a.length==0) (.k (zpd.2,0)) (.bn (zej a) fun r1=>.i (r1) (.k ([],0)) (.bn (zdH (zex (Atom.mk 3 (RowID.mk 0 0) [a] 0 [] 0 (Value.mk 0 0 (ByteArray.mk #[])))).2) fun r0=>.k (r0.1,r0.2))))
def zlY (a:List Term):Bool×(List Term×Int):=(zrw a).fin default
def zwG (r:List Term×Int):ARes ty:=⟨[.own 42 r.1,.pure (.lit (.int .i64 r.2))],[]⟩
def zy4:AL base (List Term×Unit):=zf (zg (vSl 42)) aNil
def zu6:Ab.Spec ty:=zk zy4 fun x=>((zlY x.1).1,zwG (zlY x.1).2)
theorem zFi:Sound Tryz.prog base 22 zu6:=
 zn (cx':=zJj) zJ zl zw (zm ⟨zqq,zc4,zeG,zhT,zpn,trivial⟩) Tryz.call22 Tryz.func22 (c:=body Tryz.f22) (by kernel_rfl) (zh (l:=[]) (by kernel_rfl) trivial) (sg:=⟨[.own 42,.pure],[]⟩) (A:=zy4) (res:=zwG) (W:=fun x=>zrw x.1) (z:=default)
def zKQ:Cx ty:=mkCx base 29 [(29,znt),(31,annotation_Valid_spec),(53,zed),(61,annotation_copied_spec),(62,zfz),(64,zow),(65,zlL)] [] [] [] [] []
def zso (a:List Term):Wy0 (List Term×Int):=.bn (zci a) fun r5=>.i (!r5) (.k ([],1)) (.i (Int.ofNat a.length==0) (.bn (zfG a) fun r0=>.k (r0,0)) (.bn (zjM a) fun r4=>.i (r4) (.bn (zfG a) fun r1=>.k (r1,0)) (.bn (zgt a) fun r3=>.i (r3) (.k (zpd.2,0)) (.bn (zdH (zex (Atom.mk 2 (RowID.mk 0 0) [a] 0 [] 0 (Value.mk 0 0 (ByteArray.mk #[])))).2) fun r2=>.k (r2.1,r2.2)))))
def zno (a:List Term):Bool×(List Term×Int):=(zso a).fin default
def zxZ (r:List Term×Int):ARes ty:=⟨[.own 42 r.1,.pure (.lit (.int .i64 r.2))],[]⟩
def zBc:AL base (List Term×Unit):=zf (zg (vSl 42)) aNil
def zpI:Ab.Spec ty:=zk zBc fun x=>((zno x.1).1,zxZ (zno x.1).2)
theorem zvq:Sound Tryz.prog base 20 zpI:=
 zn (cx':=zKQ) zJ zl zw (zm ⟨zqq,zc4,zeG,zhK,zhT,zui,zp8,trivial⟩) Tryz.call20 Tryz.func20 (c:=body Tryz.f20) (by kernel_rfl) (zh (l:=[]) (by kernel_rfl) trivial) (sg:=⟨[.own 42,.pure],[]⟩) (A:=zBc) (res:=zxZ) (W:=fun x=>zso x.1) (z:=default)
def zKE:Cx ty:=mkCx base 38 [(31,annotation_Valid_spec),(32,zpE),(53,zed),(61,annotation_copied_spec),(62,zfz)] [] [] [] [] []
def ztb (a:List Term) (b:List Term):Wy0 (List Term×Int):=.bn (zci a) fun r4=>.i (!r4) (.k ([],1)) (.bn (zci b) fun r3=>.i (!r3) (.k ([],1)) (.i (Int.ofNat b.length==0) (.bn (zfG a) fun r0=>.k (r0,0)) (.i (Int.ofNat a.length==0) (.k ([],0)) (.bn (ziz a b) fun r2=>.i (r2) (.k ([],0)) (.bn (zdH (zex (Atom.mk 1 (RowID.mk 0 0) [a,b] 0 [] 0 (Value.mk 0 0 (ByteArray.mk #[])))).2) fun r1=>.k (r1.1,r1.2))))))
def zm3 (a:List Term) (b:List Term):Bool×(List Term×Int):=(ztb a b).fin default
def zxY (r:List Term×Int):ARes ty:=⟨[.own 42 r.1,.pure (.lit (.int .i64 r.2))],[]⟩
def zAV:AL base (List Term×List Term×Unit):=zf (zg (vSl 42)) (zf (zg (vSl 42)) aNil)
def zps:Ab.Spec ty:=zk zAV fun x=>((zm3 x.1 x.2.1).1,zxY (zm3 x.1 x.2.1).2)
theorem zvr:Sound Tryz.prog base 18 zps:=
 zn (cx':=zKE) zJ zl zw (zm ⟨zc4,zuY,zeG,zhK,zhT,trivial⟩) Tryz.call18 Tryz.func18 (c:=body Tryz.f18) (by kernel_rfl) (zh (l:=[]) (by kernel_rfl) trivial) (sg:=⟨[.own 42,.pure],[]⟩) (A:=zAV) (res:=zxY) (W:=fun x=>ztb x.1 x.2.1) (z:=default)
def ze5 (x:List Weighted) (a b:Int):Bool×List Weighted:=zPY zbc x a b
def slices_insertionSortCmpFunc_api_Weighted_spec:Ab.Spec ty:=zk (cx:=base) (zf (aOwn 52) (zf (zg (vInt .i64)) (zf (zg (vInt .i64)) (zf (zg (vFn 85 vNil)) aNil)))) fun x=>((ze5 x.1 x.2.1 x.2.2.1).1,⟨[],[some ⟨52,(ze5 x.1 x.2.1 x.2.2.1).2⟩]⟩)
theorem zoE (c:Unit) (x y:Weighted) (h:(zbc x y).1=true):annotation_compareItems_spec ((AV.agg (base.enc 52 x)::AV.agg (base.enc 52 y)::(vNil:VL base Unit).enc c).map Arg.pure)=some (true,⟨[.pure (.lit (.int .i64 (zbc x y).2))],[]⟩):=by
 rw [← h]; kernel_rfl
theorem znR:Sound Tryz.prog base 164 slices_insertionSortCmpFunc_api_Weighted_spec:=by
 letI:DecidableEq (ty 52):=inferInstanceAs (DecidableEq Weighted)
 exact zVs (T:=52) zl rfl Go.Proofs.Tryz.insW Tryz.isAgg52 (by unfold szOf; exact Tryz.sizeOf52) Tryz.call164 zgA vNil (fun c=>zbc) zoE
open Go.Proofs Go.RowKit
def zcc (x:List Weighted) (m:Int):Bool×List Weighted:=(decide (SortOK zbc x)&&(decide (m=x.length)&&decide (m<20)),zmd zbc x)
def zkk:Ab.Spec ty:=zk (cx:=base) (zf (aOwn 52) (zf (zg (vInt .i64)) (zf (zg (vFn 85 vNil)) aNil))) fun x=>((zcc x.1 x.2.1).1,⟨[],[some ⟨52,(zcc x.1 x.2.1).2⟩]⟩)
set_option maxHeartbeats 1000000 in
theorem zri:Sound Tryz.prog base 139 zkk where
 enters:=Tryz.call139
 calls:=fun avs r hsp w F vs hF ha hsep=>by
  unfold zkk zk at hsp
  split at hsp
  ·rename_i x hx
   simp only [Option.some.injEq,Prod.mk.injEq] at hsp
   obtain ⟨hpre,rfl⟩:=hsp
   have hk:=(zf (aOwn 52) (zf (zg (vInt .i64)) (zf (zg (vFn 85 vNil)) aNil)):AL base _).kind vs avs x hx
   have ha':=(zf (aOwn 52) (zf (zg (vInt .i64)) (zf (zg (vFn 85 vNil)) aNil)):AL base _).ok Tryz.prog zl F w vs avs x hx ha
   rw [hk] at hsep ⊢
   clear hk hx ha
   obtain ⟨l0,m,c,u0⟩:=x
   obtain ⟨l,rfl⟩:∃ l:List Weighted,l=l0:=⟨l0,rfl⟩
   obtain ⟨v,vs',rfl,hv,hv'⟩:=ha'.inv
   obtain ⟨mv,vs1,rfl,hm,hv1⟩:=hv'.inv
   obtain ⟨fv,vs'',rfl,hfv,h0⟩:=hv1.inv
   obtain rfl:=h0.nil_left.1
   have hm:Rep base F w mv (.lit (.int .i64 m)):=hm
   obtain rfl:mv=.int .i64 m:=by cases hm; rfl
   have hsl:∃ p cap,v=.slice p l.length cap:=by
    obtain ⟨⟨xs,hown,_⟩,_⟩:=(show zcV base F w v 52 l∧∀ b,zbd v=some b→¬ F b from hv)
    rcases hown.2 with ⟨h1,h2⟩ | ⟨g0,cap,cur,h1,_⟩
    ·exact ⟨none,0,by rw [h1,show l.length=0 from h2]⟩
    ·exact ⟨_,cap,h1⟩
   have hpre:(decide (SortOK (α:=Weighted) zbc l)&&(decide (m=l.length)&&decide (m<20)))=true:=hpre
   simp only [Bool.and_eq_true,decide_eq_true_eq] at hpre
   obtain ⟨hok,rfl,h20⟩:=hpre
   have hpp:(ze5 l 0 (l.length:Int)).1=true:=by
    show (decide (SortOK (α:=Weighted) zbc l)&&(decide ((0:Int)=0)&&decide ((l.length:Int)=l.length)))=true
    simp only [Bool.and_eq_true,decide_eq_true_eq]
    exact ⟨hok,trivial,trivial⟩
   have hp:=(znR).calls [.own 52 l,.pure (.lit (.int .i64 0)),.pure (.lit (.int .i64 (l.length:Int))),.pure (.fn 85 [])] ⟨[],[some ⟨52,(zcc l (l.length:Int)).2⟩]⟩
    (by rw [← hpp]; kernel_rfl) w F [v,.int .i64 0,.int .i64 (l.length:Int),fv] hF (.cons hv (.cons (Rep.lit _) (.cons (Rep.lit _) (.cons hfv .nil)))) hsep
   replace hp:Calls Tryz.prog 164 #[v,.int .i64 0,.int .i64 (l.length:Int),fv] w fun e w'=>∃ u,e=.returned u∧Post base F w [v] ⟨[],[some ⟨52,(zcc l (l.length:Int)).2⟩]⟩ u w':=hp
   show Calls Tryz.prog 139 #[v,.int .i64 (l.length:Int),fv] w fun e w'=>∃ u,e=.returned u∧Post base F w [v] ⟨[],[some ⟨52,(zcc l (l.length:Int)).2⟩]⟩ u w'
   generalize (zcc l (l.length:Int)).2=res at hp ⊢
   generalize hn:l.length=m at *
   clear hpp hv hfv hsep hok hF hm
   obtain ⟨p,cap,rfl⟩:=hsl
   clear hn
   go_enter Tryz.func139,Tryz.ntmps139
   go_wp2
   refine wp_loop_rounds 1 ?_
   rw [rounds_succ]
   go_wp2_with (go_at_call 164; refine hp.mono ?_; rintro e w' ⟨u,rfl,hpost⟩; obtain rfl:=hpost.unit)
   refine wp_loop_rounds 1 ?_
   rw [rounds_succ]
   go_wp2
   all_goals first | (exfalso; omega) | (go_end0; exact ⟨_,rfl,hpost⟩)
  ·cases hsp
end Go.Proofs.YtnolcogncjijpaaGreatDoor
namespace Go.Proofs.YtnolcogncjijpaaGreatDoor
open Go Go.Ab
open Go.Proofs Go.RowKit
def zbi (x:List Weighted):Bool×List Weighted:=(decide (SortOK zbc x)&&decide (x.length<20),zmd zbc x)
def zdh:Ab.Spec ty:=zk (cx:=base) (zf (aOwn 52) (zf (zg (vFn 85 vNil)) aNil)) fun x=>((zbi x.1).1,⟨[],[some ⟨52,(zbi x.1).2⟩]⟩)
set_option maxHeartbeats 1000000 in
theorem zkY:Sound Tryz.prog base 84 zdh where
 enters:=Tryz.call84
 calls:=fun avs r hsp w F vs hF ha hsep=>by
  unfold zdh zk at hsp
  split at hsp
  ·rename_i x hx
   simp only [Option.some.injEq,Prod.mk.injEq] at hsp
   obtain ⟨hpre,rfl⟩:=hsp
   have hk:=(zf (aOwn 52) (zf (zg (vFn 85 vNil)) aNil):AL base _).kind vs avs x hx
   have ha':=(zf (aOwn 52) (zf (zg (vFn 85 vNil)) aNil):AL base _).ok Tryz.prog zl F w vs avs x hx ha
   rw [hk] at hsep ⊢
   clear hk hx ha
   obtain ⟨l0,c,u0⟩:=x
   obtain ⟨l,rfl⟩:∃ l:List Weighted,l=l0:=⟨l0,rfl⟩
   obtain ⟨v,vs',rfl,hv,hv'⟩:=ha'.inv
   obtain ⟨fv,vs'',rfl,hfv,h0⟩:=hv'.inv
   obtain rfl:=h0.nil_left.1
   have hsl:∃ p cap,v=.slice p l.length cap:=by
    obtain ⟨⟨xs,hown,_⟩,_⟩:=(show zcV base F w v 52 l∧∀ b,zbd v=some b→¬ F b from hv)
    rcases hown.2 with ⟨h1,h2⟩ | ⟨g0,cap,cur,h1,_⟩
    ·exact ⟨none,0,by rw [h1,show l.length=0 from h2]⟩
    ·exact ⟨_,cap,h1⟩
   have hpre:(decide (SortOK (α:=Weighted) zbc l)&&decide (l.length<20))=true:=hpre
   simp only [Bool.and_eq_true,decide_eq_true_eq] at hpre
   obtain ⟨hok,h20⟩:=hpre
   have hpp:(zcc l (l.length:Int)).1=true:=by
    show (decide (SortOK (α:=Weighted) zbc l)&&(decide ((l.length:Int)=l.length)&&decide ((l.length:Int)<20)))=true
    simp only [Bool.and_eq_true,decide_eq_true_eq]
    exact ⟨hok,trivial,by omega⟩
   have hp:=(zri).calls [.own 52 l,.pure (.lit (.int .i64 (l.length:Int))),.pure (.fn 85 [])] ⟨[],[some ⟨52,(zbi l).2⟩]⟩
    (by rw [← hpp]; kernel_rfl) w F [v,.int .i64 (l.length:Int),fv] hF (.cons hv (.cons (Rep.lit _) (.cons hfv .nil))) hsep
   replace hp:Calls Tryz.prog 139 #[v,.int .i64 (l.length:Int),fv] w fun e w'=>∃ u,e=.returned u∧Post base F w [v] ⟨[],[some ⟨52,(zbi l).2⟩]⟩ u w':=hp
   show Calls Tryz.prog 84 #[v,fv] w fun e w'=>∃ u,e=.returned u∧Post base F w [v] ⟨[],[some ⟨52,(zbi l).2⟩]⟩ u w'
   generalize (zbi l).2=res at hp ⊢
   generalize hn:l.length=m at *
   clear hpp hv hfv hsep hok hF
   obtain ⟨p,cap,rfl⟩:=hsl
   clear hn
   go_enter Tryz.func84,Tryz.ntmps84
   go_wp2_with (go_at_call 139; refine hp.mono ?_; rintro e w' ⟨u,rfl,hpost⟩; obtain rfl:=hpost.unit)
   go_end0
   exact ⟨_,rfl,hpost⟩
  ·cases hsp
end Go.Proofs.YtnolcogncjijpaaGreatDoor
namespace Go.Proofs.YtnolcogncjijpaaGreatDoor
open Go Go.Ab
abbrev ttTannotationItems0:=Unit×List Weighted×Int×Int×Unit
abbrev ttTannotationItems1:=List Weighted×Unit
def zkg (t6:List Weighted) (t7:Int) (t8:Int) (out_:List Weighted):Wy ttTannotationItems0 ttTannotationItems1 (List Weighted):=.i (decide (t8<t7)) (.i (decide (0≤t8)&&decide (t8<Int.ofNat t6.length)) (.i (decide (Int.ofNat (t6.getD t8.toNat default).Ann.length>0)) (.bn (zfG (t6.getD t8.toNat default).Ann) fun r0=>.i (decide ((out_.length+[WeightedOf.mk (t6.getD t8.toNat default).Value r0].length)*56≤zQ)) (.h ((),t6,t7,(IntKind.i64.wrap (t8+1)),()) ((out_++[WeightedOf.mk (t6.getD t8.toNat default).Value r0]),())) .d) (.h ((),t6,t7,(IntKind.i64.wrap (t8+1)),()) (out_,()))) .d) (.k out_)
def znr (x:ttTannotationItems0) (y:ttTannotationItems1):Wy ttTannotationItems0 ttTannotationItems1 (List Weighted):=zkg x.2.1 x.2.2.1 x.2.2.2.1 y.1
def zyH (n:Nat) (t6:List Weighted) (t7:Int) (t8:Int) (out_:List Weighted):Bool×List Weighted:=zX (znr) default n ((),t6,t7,t8,()) (out_,())
def zw9 (r:List Weighted):LTree ty:=.done (.exit 0) [.own 116] [.arr 52 r false]
def zyy:LL ty ttTannotationItems0:=za (lOwn 116) (za (lSl 52) (za (lInt .i64) (za (lInt .i64) zH)))
def zyo:BL ty ttTannotationItems1:=bArr 52 false (bNil)
def zx6 (x:ttTannotationItems0) (y:ttTannotationItems1):Nat:=(x.2.1.length+Int.toNat x.2.2.1+Int.toNat x.2.2.2.1+y.1.length+1)
def zyP:Cx ty:=mkCx base 29 [(61,annotation_copied_spec),(84,zdh),(85,annotation_compareItems_spec)] [(84,[true,false])] [(3,[(3,.own 52),(6,.keep),(7,.keep),(8,.keep)])] [(3,1,[(3,.keep)])] [(3,spW zyy zyo (znr) default zw9 zx6)] []
theorem zJy:zW zyP (lp (body Tryz.f36) 0):=zK (id:=3) (V:=zyy) (B:=zyo) (W:=znr) (z:=default) (tr:=zw9) (m:=zx6)
def zsX (l:List Weighted):Wy0 (List Weighted):=.bn (zyH (l.length+(Int.ofNat l.length).toNat +Int.toNat 0+0+1) l (Int.ofNat l.length) 0 []) fun r3=>.bn (zbi r3) fun r2=>.k r2
def znm (l:List Weighted):Bool×List Weighted:=(zsX l).fin default
def zw3 (r:List Weighted):ARes ty:=⟨[.own 52 r],[]⟩
def zAC:AL base ttTannotationItems1:=zf (zg (vSl 52)) aNil
def zwA:Ab.Spec ty:=zk zAC fun x=>((znm x.1).1,zw3 (znm x.1).2)
theorem zGU:Sound Tryz.prog base 36 zwA:=
 zn (cx':=zyP) zJ zl zw (zm ⟨zhK,zkY,zgA,trivial⟩) Tryz.call36 Tryz.func36 (c:=body Tryz.f36) (by kernel_rfl) (zh (l:=[lp (body Tryz.f36) 0]) (by kernel_rfl) ⟨zJy,trivial⟩) (sg:=⟨[.own 52],[]⟩) (A:=zAC) (res:=zw3) (W:=fun x=>zsX x.1) (z:=default)
def zIr:Cx ty:=mkCx base 7 [(31,annotation_Valid_spec)] [] [] [] [] []
def zqo (w:Weighted):Wy0 (Bool):=.bn (zci w.Ann) fun r0=>.k (!r0)
def zk7 (w:Weighted):Bool×Bool:=(zqo w).fin default
def zvv (r:Bool):ARes ty:=⟨[.pure (.lit (.bool r))],[]⟩
def zxX:AL base (Weighted×Unit):=zf (zg (vAgg 52)) aNil
def zkb:Ab.Spec ty:=zk zxX fun x=>((zk7 x.1).1,zvv (zk7 x.1).2)
theorem zm7:Sound Tryz.prog base 77 zkb:=
 zn (cx':=zIr) zJ zl zw (zm ⟨zc4,trivial⟩) Tryz.call77 Tryz.func77 (c:=body Tryz.f77) (by kernel_rfl) (zh (l:=[]) (by kernel_rfl) trivial) (sg:=⟨[.pure],[]⟩) (A:=zxX) (res:=zvv) (W:=fun x=>zqo x.1) (z:=default)
def zKy:Cx ty:=mkCx base 28 [] [] [] [] [] []
def zsv (op:Int) (sign:Int):Wy0 (Bool):=.i (op==5) (.k (sign==0)) (.i (op==6) (.k (sign != 0)) (.i (op==7) (.k (decide (sign<0))) (.i (op==8) (.k (decide (sign≤0))) (.i (op==9) (.k (decide (sign>0))) (.k (decide (sign≥0)))))))
def znc (op:Int) (sign:Int):Bool×Bool:=(zsv op sign).fin default
def zxT (r:Bool):ARes ty:=⟨[.pure (.lit (.bool r))],[]⟩
def zAj:AL base (Int×Int×Unit):=zf (zg (vInt .i64)) (zf (zg (vInt .i64)) aNil)
def zwt:Ab.Spec ty:=zk zAj fun x=>((znc x.1 x.2.1).1,zxT (znc x.1 x.2.1).2)
theorem zG4:Sound Tryz.prog base 78 zwt:=
 zn (cx':=zKy) zJ zl zw (zm trivial) Tryz.call78 Tryz.func78 (c:=body Tryz.f78) (by kernel_rfl) (zh (l:=[]) (by kernel_rfl) trivial) (sg:=⟨[.pure],[]⟩) (A:=zAj) (res:=zxT) (W:=fun x=>zsv x.1 x.2.1) (z:=default)
abbrev ttTslicesIndexFuncLapiWeightedapiWeightedt10:=List Weighted×Unit×Int×Int×Unit
def zmL (s:List Weighted) (t7:Int) (t8:Int):Wy ttTslicesIndexFuncLapiWeightedapiWeightedt10 (Unit) (Int⊕Unit):=.i (decide (t8<t7)) (.i (decide (0≤t8)&&decide (t8<Int.ofNat s.length)) (.bn (zk7 (s.getD t8.toNat default)) fun r0=>.i (r0) (.k (.inl t8)) (.h (s,(),t7,(IntKind.i64.wrap (t8+1)),()) ())) .d) (.k (.inr ()))
def zdR (x:ttTslicesIndexFuncLapiWeightedapiWeightedt10) (y:Unit):Wy ttTslicesIndexFuncLapiWeightedapiWeightedt10 (Unit) (Int⊕Unit):=zmL x.1 x.2.2.1 x.2.2.2.1
def zmQ (n:Nat) (s:List Weighted) (t7:Int) (t8:Int):Bool×(Int⊕Unit):=zX (zdR) (.inl default) n (s,(),t7,t8,()) ()
def zfQ (r:Int⊕Unit):LTree ty:=.ite (isL r) (.done .ret [.lit (.int .i64 (getL r))] []) (.done (.exit 0) [] [])
def zgn:LL ty ttTslicesIndexFuncLapiWeightedapiWeightedt10:=za (lSl 52) (za (lFn 77 (zH)) (za (lInt .i64) (za (lInt .i64) zH)))
def zgr:BL ty (Unit):=bNil
def zgc (x:ttTslicesIndexFuncLapiWeightedapiWeightedt10) (y:Unit):Nat:=(x.1.length+Int.toNat x.2.2.1+Int.toNat x.2.2.2.1+1)
def zgu:Cx ty:=mkCx base 19 [(77,zkb)] [] [(2,[(0,.keep),(1,.keep),(7,.keep),(8,.keep)])] [(2,1,[]),(2,0,[(4,.keep)])] [(2,spW zgn zgr (zdR) (.inl default) zfQ zgc)] []
theorem zmr:zW zgu (lp (body Tryz.f135) 0):=zK (id:=2) (V:=zgn) (B:=zgr) (W:=zdR) (z:=.inl default) (tr:=zfQ) (m:=zgc)
def zgG (s:List Weighted):Wy0 (Int):=.bn (zmQ (s.length+(Int.ofNat s.length).toNat +Int.toNat 0+1) s (Int.ofNat s.length) 0) fun r2=>.i (isL r2) (.k (getL r2)) (.k (-1:Int))
def zcO (s:List Weighted):Bool×Int:=(zgG s).fin default
def zgb (r:Int):ARes ty:=⟨[.pure (.lit (.int .i64 r))],[]⟩
def zgP:AL base (List Weighted×Unit×Unit):=zf (zg (vSl 52)) (zf (zg (vFn 77 vNil)) aNil)
def zfD:Ab.Spec ty:=zk zgP fun x=>((zcO x.1).1,zgb (zcO x.1).2)
theorem zlS:Sound Tryz.prog base 135 zfD:=
 zn (cx':=zgu) zJ zl zw (zm ⟨zm7,trivial⟩) Tryz.call135 Tryz.func135 (c:=body Tryz.f135) (by kernel_rfl) (zh (l:=[lp (body Tryz.f135) 0]) (by kernel_rfl) ⟨zmr,trivial⟩) (sg:=⟨[.pure],[]⟩) (A:=zgP) (res:=zgb) (W:=fun x=>zgG x.1) (z:=default)
def zlF:Cx ty:=mkCx base 9 [(77,zkb),(135,zfD)] [] [] [] [] []
def zdB (s:List Weighted):Wy0 (Bool):=.bn (zcO s) fun r0=>.k (decide (r0≥0))
def zbQ (s:List Weighted):Bool×Bool:=(zdB s).fin default
def zfa (r:Bool):ARes ty:=⟨[.pure (.lit (.bool r))],[]⟩
def zfL:AL base (List Weighted×Unit×Unit):=zf (zg (vSl 52)) (zf (zg (vFn 77 vNil)) aNil)
def zeY:Ab.Spec ty:=zk zfL fun x=>((zbQ x.1).1,zfa (zbQ x.1).2)
theorem zkO:Sound Tryz.prog base 76 zeY:=
 zn (cx':=zlF) zJ zl zw (zm ⟨zm7,zlS,trivial⟩) Tryz.call76 Tryz.func76 (c:=body Tryz.f76) (by kernel_rfl) (zh (l:=[]) (by kernel_rfl) trivial) (sg:=⟨[.pure],[]⟩) (A:=zfL) (res:=zfa) (W:=fun x=>zdB x.1) (z:=default)
def zLd:Cx ty:=mkCx base 45 [(29,znt),(36,zwA),(53,zed),(62,zfz),(75,znM),(76,zeY),(77,zkb),(78,zwt),(79,zkL)] [] [] [] [] []
def zuE (fn:Int) (items:List Weighted) (op:Int) (bound:Value):Wy0 (List Term×Int):=.bn (ziP fn items op bound) fun r5=>.i (!r5) (.k ([],1)) (.bn (zbQ items) fun r4=>.i (r4) (.k ([],1)) (.bn (znm items) fun r3=>.i (decide (Int.ofNat r3.length>0)) (.bn (zdH (zex (Atom.mk 4 (RowID.mk 0 0) [] fn r3 op bound)).2) fun r0=>.k (r0.1,r0.2)) (.i (fn==0) (.bn (zhX 0 bound.Int) fun r2=>.bn (znc op r2) fun r1=>.i (r1) (.k (zpd.2,0)) (.k ([],0))) (.k ([],0)))))
def zlq (fn:Int) (items:List Weighted) (op:Int) (bound:Value):Bool×(List Term×Int):=(zuE fn items op bound).fin default
def zyO (r:List Term×Int):ARes ty:=⟨[.own 42 r.1,.pure (.lit (.int .i64 r.2))],[]⟩
def zCU:AL base (Int×List Weighted×Int×Value×Unit):=zf (zg (vInt .i64)) (zf (zg (vSl 52)) (zf (zg (vInt .i64)) (zf (zg (vAgg 46)) aNil)))
def zx2:Ab.Spec ty:=zk zCU fun x=>((zlq x.1 x.2.1 x.2.2.1 x.2.2.2.1).1,zyO (zlq x.1 x.2.1 x.2.2.1 x.2.2.2.1).2)
theorem zIg:Sound Tryz.prog base 33 zx2:=
 zn (cx':=zLd) zJ zl zw (zm ⟨zqq,zGU,zeG,zhT,zsF,zkO,zm7,zG4,znV,trivial⟩) Tryz.call33 Tryz.func33 (c:=body Tryz.f33) (by kernel_rfl) (zh (l:=[]) (by kernel_rfl) trivial) (sg:=⟨[.own 42,.pure],[]⟩) (A:=zCU) (res:=zyO) (W:=fun x=>zuE x.1 x.2.1 x.2.2.1 x.2.2.2.1) (z:=default)
abbrev ttTannotationreplaceAtom0:=((List Binding×Unit)×Unit)×Unit×Unit×List (List Term)×Int×Int×Unit
abbrev ttTannotationreplaceAtom1:=Atom×List (List Term)×Unit
abbrev ttTannotationreplaceAtom2:=Int⊕(List Binding×Atom×List (List Term))
abbrev ttTannotationreplaceAtom3:=((List Binding×Unit)×Unit)×Unit×Unit×List Weighted×Int×Int×Unit
abbrev ttTannotationreplaceAtom4:=Atom×List Weighted×Unit
abbrev ttTannotationreplaceAtom5:=Int⊕(Atom×List Weighted)
def zkR (zL:List Term→List Binding→Bool×(List Term×Int)) (to:List Binding) (t24:List (List Term)) (t25:Int) (t26:Int) (x_:Atom) (args:List (List Term)):Wy ttTannotationreplaceAtom0 ttTannotationreplaceAtom1 ttTannotationreplaceAtom2:=.i (decide (t26<t25)) (.i (decide (0≤t26)&&decide (t26<Int.ofNat t24.length)) (.bn (zL (t24.getD t26.toNat default) to) fun r2=>.i (r2.2 != 0) (.k (.inl (r2.2))) (.i (decide ((args.length+[r2.1].length)*24≤zQ)) (.h (((to,()),()),(),(),t24,t25,(IntKind.i64.wrap (t26+1)),()) (x_,(args++[r2.1]),())) .d)) .d) (.k (.inr (to,x_,args)))
def zle (zL:List Term→List Binding→Bool×(List Term×Int)) (x:ttTannotationreplaceAtom0) (y:ttTannotationreplaceAtom1):Wy ttTannotationreplaceAtom0 ttTannotationreplaceAtom1 ttTannotationreplaceAtom2:=zkR zL x.1.1.1 x.2.2.2.1 x.2.2.2.2.1 x.2.2.2.2.2.1 y.1 y.2.1
def zhZ (zL:List Term→List Binding→Bool×(List Term×Int)) (n:Nat) (to:List Binding) (t24:List (List Term)) (t25:Int) (t26:Int) (x_:Atom) (args:List (List Term)):Bool×ttTannotationreplaceAtom2:=zX (zle zL) (.inl default) n (((to,()),()),(),(),t24,t25,t26,()) (x_,args,())
def zpD (r:ttTannotationreplaceAtom2):LTree ty:=.ite (isL r) (.done .ret [.lit (.slice none 0 0),.lit (.int .i64 (getL r))] []) (.done (.exit 0) [.fn 93 ([.bptr ([.sl 69 (getR r).1]) 0]),.ptr 432 0,.own 433] [.box (base.enc 48 (getR r).2.1) false,.arr 23 (getR r).2.2 false])
def zpX:LL ty ttTannotationreplaceAtom0:=za (lFn 93 (za (zAp (za (lSl 69) zH) 0) zH)) (za (ze9 432 0) (za (lOwn 433) (za (lSl 23) (za (lInt .i64) (za (lInt .i64) zH)))))
def zpY:BL ty ttTannotationreplaceAtom1:=bBox (zgz (fun x=>(⟨x.1,⟨x.2.1,x.2.2.1⟩,x.2.2.2.1,x.2.2.2.2.1,x.2.2.2.2.2.1,x.2.2.2.2.2.2.1,⟨x.2.2.2.2.2.2.2.1,x.2.2.2.2.2.2.2.2.1,x.2.2.2.2.2.2.2.2.2.1⟩⟩:Atom)) (fun x=>(x.Kind,x.Row.Table,x.Row.Seq,x.Args,x.Func,x.Items,x.Op,x.Bound.Kind,x.Bound.Int,x.Bound.Text,())) (fun _=>rfl) (za (lInt .i64) (za (lInt .i64) (za (lInt .i64) (za (lSl 23) (za (lInt .i64) (za (lSl 52) (za (lInt .i64) (za (lInt .i64) (za (lInt .i64) (za lStr zH))))))))))) false (bArr 23 false (bNil))
def zku (zL:List Term→List Binding→Bool×(List Term×Int)) (to:List Binding) (t74:List Weighted) (t75:Int) (t76:Int) (x_:Atom) (items:List Weighted):Wy ttTannotationreplaceAtom3 ttTannotationreplaceAtom4 ttTannotationreplaceAtom5:=.i (decide (t76<t75)) (.i (decide (0≤t76)&&decide (t76<Int.ofNat t74.length)) (.bn (zL (t74.getD t76.toNat default).Ann to) fun r4=>.i (r4.2 != 0) (.k (.inl (r4.2))) (.i (decide ((items.length+[WeightedOf.mk (t74.getD t76.toNat default).Value r4.1].length)*56≤zQ)) (.h (((to,()),()),(),(),t74,t75,(IntKind.i64.wrap (t76+1)),()) (x_,(items++[WeightedOf.mk (t74.getD t76.toNat default).Value r4.1]),())) .d)) .d) (.k (.inr (x_,items)))
def zkA (zL:List Term→List Binding→Bool×(List Term×Int)) (x:ttTannotationreplaceAtom3) (y:ttTannotationreplaceAtom4):Wy ttTannotationreplaceAtom3 ttTannotationreplaceAtom4 ttTannotationreplaceAtom5:=zku zL x.1.1.1 x.2.2.2.1 x.2.2.2.2.1 x.2.2.2.2.2.1 y.1 y.2.1
def zhv (zL:List Term→List Binding→Bool×(List Term×Int)) (n:Nat) (to:List Binding) (t74:List Weighted) (t75:Int) (t76:Int) (x_:Atom) (items:List Weighted):Bool×ttTannotationreplaceAtom5:=zX (zkA zL) (.inl default) n (((to,()),()),(),(),t74,t75,t76,()) (x_,items,())
def zoR (r:ttTannotationreplaceAtom5):LTree ty:=.ite (isL r) (.done .ret [.lit (.slice none 0 0),.lit (.int .i64 (getL r))] []) (.done (.exit 3) [.ptr 432 0,.own 433] [.box (base.enc 48 (getR r).1) false,.arr 52 (getR r).2 false])
def zpk:LL ty ttTannotationreplaceAtom3:=za (lFn 93 (za (zAp (za (lSl 69) zH) 0) zH)) (za (ze9 432 0) (za (lOwn 433) (za (lSl 52) (za (lInt .i64) (za (lInt .i64) zH)))))
def zpf:BL ty ttTannotationreplaceAtom4:=bBox (zgz (fun x=>(⟨x.1,⟨x.2.1,x.2.2.1⟩,x.2.2.2.1,x.2.2.2.2.1,x.2.2.2.2.2.1,x.2.2.2.2.2.2.1,⟨x.2.2.2.2.2.2.2.1,x.2.2.2.2.2.2.2.2.1,x.2.2.2.2.2.2.2.2.2.1⟩⟩:Atom)) (fun x=>(x.Kind,x.Row.Table,x.Row.Seq,x.Args,x.Func,x.Items,x.Op,x.Bound.Kind,x.Bound.Int,x.Bound.Text,())) (fun _=>rfl) (za (lInt .i64) (za (lInt .i64) (za (lInt .i64) (za (lSl 23) (za (lInt .i64) (za (lSl 52) (za (lInt .i64) (za (lInt .i64) (za (lInt .i64) (za lStr zH))))))))))) false (bArr 52 false (bNil))
def zpb (x:ttTannotationreplaceAtom0) (y:ttTannotationreplaceAtom1):Nat:=(x.1.1.1.length+x.2.2.2.1.length+Int.toNat x.2.2.2.2.1+Int.toNat x.2.2.2.2.2.1+y.1.Args.length+y.1.Items.length+y.2.1.length+1)
def zoU (x:ttTannotationreplaceAtom3) (y:ttTannotationreplaceAtom4):Nat:=(x.1.1.1.length+x.2.2.2.1.length+Int.toNat x.2.2.2.2.1+Int.toNat x.2.2.2.2.2.1+y.1.Args.length+y.1.Items.length+y.2.1.length+1)
def zld (zL:List Term→List Binding→Bool×(List Term×Int)):Cx ty:=mkCx base0 108 [(18,zps),(20,zpI),(22,zu6),(33,zx2),(92,(zjt zL)),(93,zgy)] [] [(5,[(1,.keep),(2,.keep),(6,.own 23),(24,.keep),(25,.keep),(26,.keep)]),(21,[(1,.keep),(2,.keep),(11,.own 52),(74,.keep),(75,.keep),(76,.keep)])] [(5,1,[(1,.keep),(2,.keep),(6,.keep)]),(5,0,[(4,.keep),(5,.keep)]),(21,4,[(2,.keep),(11,.keep)]),(21,0,[(4,.keep),(5,.keep)])] [(5,spW zpX zpY (zle zL) (.inl default) zpD zpb),(21,spW zpk zpf (zkA zL) (.inl default) zoR zoU)] []
theorem zzI (zL:List Term→List Binding→Bool×(List Term×Int)):zW (zld zL) (lp (body Tryz.f140) 0):=zK (id:=5) (V:=zpX) (B:=zpY) (W:=zle zL) (z:=.inl default) (tr:=zpD) (m:=zpb)
theorem zym (zL:List Term→List Binding→Bool×(List Term×Int)):zW (zld zL) (lp (body Tryz.f140) 1):=zK (id:=21) (V:=zpk) (B:=zpf) (W:=zkA zL) (z:=.inl default) (tr:=zoR) (m:=zoU)
def zlD (zL:List Term→List Binding→Bool×(List Term×Int)) (x_:Atom) (to:List Binding):Wy0 (List Term×Int):=.i (x_.Kind==0) (.bn (zgF x_.Row to) fun r6=>.k (r6,0)) (.bn (zhZ zL (to.length+x_.Args.length+(Int.ofNat x_.Args.length).toNat +Int.toNat 0+x_.Args.length+x_.Items.length+0+1) to x_.Args (Int.ofNat x_.Args.length) 0 (Atom.mk x_.Kind x_.Row x_.Args x_.Func x_.Items x_.Op x_.Bound) []) fun r12=>.i (isL r12) (.k ([],getL r12)) (.i ((getR r12).2.1.Kind==1) (.i (decide ((0:Int)≤(0:Int))&&decide (0<Int.ofNat (getR r12).2.2.length)) (.i (decide ((0:Int)≤(1:Int))&&decide (1<Int.ofNat (getR r12).2.2.length)) (.bn (zm3 ((getR r12).2.2.getD (Int.toNat 0) default) ((getR r12).2.2.getD (Int.toNat 1) default)) fun r7=>.k (r7.1,r7.2)) .d) .d) (.i ((getR r12).2.1.Kind==2) (.i (decide ((0:Int)≤(0:Int))&&decide (0<Int.ofNat (getR r12).2.2.length)) (.bn (zno ((getR r12).2.2.getD (Int.toNat 0) default)) fun r8=>.k (r8.1,r8.2)) .d) (.i ((getR r12).2.1.Kind==3) (.i (decide ((0:Int)≤(0:Int))&&decide (0<Int.ofNat (getR r12).2.2.length)) (.bn (zlY ((getR r12).2.2.getD (Int.toNat 0) default)) fun r9=>.k (r9.1,r9.2)) .d) (.bn (zhv zL ((getR r12).1.length+(getR r12).2.1.Items.length+(Int.ofNat (getR r12).2.1.Items.length).toNat +Int.toNat 0+(getR r12).2.1.Args.length+(getR r12).2.1.Items.length+0+1) (getR r12).1 (getR r12).2.1.Items (Int.ofNat (getR r12).2.1.Items.length) 0 (Atom.mk (getR r12).2.1.Kind (getR r12).2.1.Row (getR r12).2.1.Args (getR r12).2.1.Func (getR r12).2.1.Items (getR r12).2.1.Op (getR r12).2.1.Bound) []) fun r11=>.i (isL r11) (.k ([],getL r11)) (.bn (zlq (getR r11).1.Func (getR r11).2 (getR r11).1.Op (getR r11).1.Bound) fun r10=>.k (r10.1,r10.2)))))))
def zgS (zL:List Term→List Binding→Bool×(List Term×Int)) (x_:Atom) (to:List Binding):Bool×(List Term×Int):=(zlD zL x_ to).fin default
theorem zxz (zL:List Term→List Binding→Bool×(List Term×Int)) (zHc:Sound Tryz.prog base0 92 (zjt zL)):Sound Tryz.prog base0 140 (zjg (zgS zL)):=
 zn (cx':=(zld zL)) zJ ziw zw (zm ⟨zvr.nodr,zvq.nodr,zFi.nodr,zIg.nodr,zHc,zjz.nodr,trivial⟩) Tryz.call140 Tryz.func140 (c:=body Tryz.f140) (by kernel_rfl) (zh (l:=[lp (body Tryz.f140) 0,lp (body Tryz.f140) 1]) (by kernel_rfl) ⟨zzI zL,zym zL,trivial⟩) (sg:=⟨[.own 42,.pure],[]⟩) (A:=zs7) (res:=zq3) (W:=fun x=>zlD zL x.1 x.2.1.1.1) (z:=default)
def zzZ:Nat→(List Term→List Binding→Bool×(List Term×Int))×(Atom→List Binding→Bool×(List Term×Int))
 | 0=>(fun _ _=>(false,default),fun _ _=>(false,default))
 | n+1=>(zjH ((zzZ n).2),zgS ((zzZ n).1))
def zja (n:Nat):List Term→List Binding→Bool×(List Term×Int):=(zzZ n).1
def zgU (n:Nat):Atom→List Binding→Bool×(List Term×Int):=(zzZ n).2
theorem zFn (n:Nat):zja (n+1)=zjH (zgU n):=rfl
theorem zAa (n:Nat):zgU (n+1)=zgS (zja n):=rfl
theorem zJN:∀ n,Sound Tryz.prog base0 92 (zjt (zja n))∧Sound Tryz.prog base0 140 (zjg (zgU n))
 | 0=>⟨zbj Tryz.call92 (fun _=>rfl),zbj Tryz.call140 (fun _=>rfl)⟩
 | n+1=>by
  have ih:=zJN n
  exact ⟨zBK _ (ih.2),zxz _ (ih.1)⟩
def zsz:List Term→List Binding→Bool×(List Term×Int):=zja 1000
def annotation_replace_spec:Ab.Spec ty:=zjt zsz
theorem zEt:Sound Tryz.prog base0 92 annotation_replace_spec:=(zJN 1000).1
def zA1:Cx ty:=mkCx base 7 [(31,annotation_Valid_spec)] [] [] [] [] []
def zlO (b:Binding):Wy0 (Bool):=.bn (zci b.To) fun r0=>.k (!r0)
def zgT (b:Binding):Bool×Bool:=(zlO b).fin default
def zpw (r:Bool):ARes ty:=⟨[.pure (.lit (.bool r))],[]⟩
def zqY:AL base (Binding×Unit):=zf (zg (vAgg 69)) aNil
def zgC:Ab.Spec ty:=zk zqY fun x=>((zgT x.1).1,zpw (zgT x.1).2)
theorem zjK:Sound Tryz.prog base 91 zgC:=
 zn (cx':=zA1) zJ zl zw (zm ⟨zc4,trivial⟩) Tryz.call91 Tryz.func91 (c:=body Tryz.f91) (by kernel_rfl) (zh (l:=[]) (by kernel_rfl) trivial) (sg:=⟨[.pure],[]⟩) (A:=zqY) (res:=zpw) (W:=fun x=>zlO x.1) (z:=default)
abbrev ttTslicesIndexFuncLapiBindingapiBindings10:=List Binding×Unit×Int×Int×Unit
def znv (s:List Binding) (t7:Int) (t8:Int):Wy ttTslicesIndexFuncLapiBindingapiBindings10 (Unit) (Int⊕Unit):=.i (decide (t8<t7)) (.i (decide (0≤t8)&&decide (t8<Int.ofNat s.length)) (.bn (zgT (s.getD t8.toNat default)) fun r0=>.i (r0) (.k (.inl t8)) (.h (s,(),t7,(IntKind.i64.wrap (t8+1)),()) ())) .d) (.k (.inr ()))
def zd7 (x:ttTslicesIndexFuncLapiBindingapiBindings10) (y:Unit):Wy ttTslicesIndexFuncLapiBindingapiBindings10 (Unit) (Int⊕Unit):=znv x.1 x.2.2.1 x.2.2.2.1
def znA (n:Nat) (s:List Binding) (t7:Int) (t8:Int):Bool×(Int⊕Unit):=zX (zd7) (.inl default) n (s,(),t7,t8,()) ()
def zg3 (r:Int⊕Unit):LTree ty:=.ite (isL r) (.done .ret [.lit (.int .i64 (getL r))] []) (.done (.exit 0) [] [])
def zhe:LL ty ttTslicesIndexFuncLapiBindingapiBindings10:=za (lSl 69) (za (lFn 91 (zH)) (za (lInt .i64) (za (lInt .i64) zH)))
def zhc:BL ty (Unit):=bNil
def zgR (x:ttTslicesIndexFuncLapiBindingapiBindings10) (y:Unit):Nat:=(x.1.length+Int.toNat x.2.2.1+Int.toNat x.2.2.2.1+1)
def zhf:Cx ty:=mkCx base 19 [(91,zgC)] [] [(2,[(0,.keep),(1,.keep),(7,.keep),(8,.keep)])] [(2,1,[]),(2,0,[(4,.keep)])] [(2,spW zhe zhc (zd7) (.inl default) zg3 zgR)] []
theorem znj:zW zhf (lp (body Tryz.f94) 0):=zK (id:=2) (V:=zhe) (B:=zhc) (W:=zd7) (z:=.inl default) (tr:=zg3) (m:=zgR)
def zhI (s:List Binding):Wy0 (Int):=.bn (znA (s.length+(Int.ofNat s.length).toNat +Int.toNat 0+1) s (Int.ofNat s.length) 0) fun r2=>.i (isL r2) (.k (getL r2)) (.k (-1:Int))
def zc2 (s:List Binding):Bool×Int:=(zhI s).fin default
def zgM (r:Int):ARes ty:=⟨[.pure (.lit (.int .i64 r))],[]⟩
def zhM:AL base (List Binding×Unit×Unit):=zf (zg (vSl 69)) (zf (zg (vFn 91 vNil)) aNil)
def zgs:Ab.Spec ty:=zk zhM fun x=>((zc2 x.1).1,zgM (zc2 x.1).2)
theorem zmt:Sound Tryz.prog base 94 zgs:=
 zn (cx':=zhf) zJ zl zw (zm ⟨zjK,trivial⟩) Tryz.call94 Tryz.func94 (c:=body Tryz.f94) (by kernel_rfl) (zh (l:=[lp (body Tryz.f94) 0]) (by kernel_rfl) ⟨znj,trivial⟩) (sg:=⟨[.pure],[]⟩) (A:=zhM) (res:=zgM) (W:=fun x=>zhI x.1) (z:=default)
def zmj:Cx ty:=mkCx base 9 [(91,zgC),(94,zgs)] [] [] [] [] []
def zdL (s:List Binding):Wy0 (Bool):=.bn (zc2 s) fun r0=>.k (decide (r0≥0))
def zbU (s:List Binding):Bool×Bool:=(zdL s).fin default
def zfH (r:Bool):ARes ty:=⟨[.pure (.lit (.bool r))],[]⟩
def zgp:AL base (List Binding×Unit×Unit):=zf (zg (vSl 69)) (zf (zg (vFn 91 vNil)) aNil)
def zfn:Ab.Spec ty:=zk zgp fun x=>((zbU x.1).1,zfH (zbU x.1).2)
theorem zlh:Sound Tryz.prog base 90 zfn:=
 zn (cx':=zmj) zJ zl zw (zm ⟨zjK,zmt,trivial⟩) Tryz.call90 Tryz.func90 (c:=body Tryz.f90) (by kernel_rfl) (zh (l:=[]) (by kernel_rfl) trivial) (sg:=⟨[.pure],[]⟩) (A:=zgp) (res:=zfH) (W:=fun x=>zdL x.1) (z:=default)
def zDK:Cx ty:=mkCx base0 18 [(31,annotation_Valid_spec),(90,zfn),(91,zgC),(92,annotation_replace_spec),(93,zgy)] [] [] [] [] []
def znX (a:List Term) (l:List Binding):Wy0 (List Term×Int):=.bn (zci a) fun r2=>.i (!r2) (.k ([],1)) (.bn (zbU l) fun r1=>.i (r1) (.k ([],1)) (.bn (zsz a l) fun r0=>.k (r0.1,r0.2)))
def ziG (a:List Term) (l:List Binding):Bool×(List Term×Int):=(znX a l).fin default
def zrT (r:List Term×Int):ARes ty:=⟨[.own 42 r.1,.pure (.lit (.int .i64 r.2))],[]⟩
def zuf:AL base0 (List Term×List Binding×Unit):=zf (zg (vSl 42)) (zf (zg (vSl 69)) aNil)
def zlP:Ab.Spec ty:=zk zuf fun x=>((ziG x.1 x.2.1).1,zrT (ziG x.1 x.2.1).2)
theorem zqd:Sound Tryz.prog base0 41 zlP:=
 zn (cx':=zDK) zJ ziw zw (zm ⟨zc4.nodr,zlh.nodr,zjK.nodr,zEt,zjz.nodr,trivial⟩) Tryz.call41 Tryz.func41 (c:=body Tryz.f41) (by kernel_rfl) (zh (l:=[]) (by kernel_rfl) trivial) (sg:=⟨[.own 42,.pure],[]⟩) (A:=zuf) (res:=zrT) (W:=fun x=>znX x.1 x.2.1) (z:=default)
def zIK:Cx ty:=mkCx base0 8 [(31,annotation_Valid_spec),(109,annotation_text_spec)] [] [] [] [] []
def zyw (a:List Term):Wy0 (ByteArray):=.bn (zci a) fun r1=>.i (!r1) (.k (ByteArray.mk #[])) (.bn (zFM a) fun r0=>.k r0)
def zCB (a:List Term):Bool×ByteArray:=(zyw a).fin default
def zwJ (r:ByteArray):ARes ty:=⟨[.pure (.lit (.string r))],[]⟩
def zy3:AL base0 (List Term×Unit):=zf (zg (vSl 42)) aNil
def zuU:Ab.Spec ty:=zk zy3 fun x=>((zCB x.1).1,zwJ (zCB x.1).2)
theorem zFx:Sound Tryz.prog base0 51 zuU:=
 zn (cx':=zIK) zJ ziw zw (zm ⟨zc4.nodr,zHq,trivial⟩) Tryz.call51 Tryz.func51 (c:=body Tryz.f51) (by kernel_rfl) (zh (l:=[]) (by kernel_rfl) trivial) (sg:=⟨[.pure],[]⟩) (A:=zy3) (res:=zwJ) (W:=fun x=>zyw x.1) (z:=default)
def zP3:Cx ty:=mkCx base0 84 [(13,zrz),(16,zrG),(18,zps),(20,zpI),(25,zpJ),(27,zrE),(41,zlP),(51,zuU)] [] [] [] [] []
def zKk:Wy0 (Bool):=.k true
def zNz:Bool×Bool:=(zKk).fin default
def zGl (r:Bool):ARes ty:=⟨[.pure (.lit (.bool r))],[]⟩
def zKw:AL base0 (Unit):=aNil
def zEr:Ab.Spec ty:=zk zKw fun x=>((zNz ).1,zGl (zNz ).2)
theorem zM4:Sound Tryz.prog base0 11 zEr:=
 zn (cx':=zP3) zJ ziw zw (zm ⟨zxu,zx0,zvr.nodr,zvq.nodr,zuV.nodr,zxt.nodr,zqd,zFx,trivial⟩) Tryz.call11 Tryz.func11 (c:=body Tryz.f11) (by kernel_rfl) (zh (l:=[]) (by kernel_rfl) trivial) (sg:=⟨[.pure],[]⟩) (A:=zKw) (res:=zGl) (W:=fun x=>zKk ) (z:=default)
def zE7 (r:Int):ARes ty:=⟨[.pure (.lit (.int .i64 r))],[]⟩
def zIf:AL base (List Term×Int×Int×Unit):=zf (zg (vSl 42)) (zf (zg (vInt .i64)) (zf (zg (vInt .i64)) aNil))
def zpz (F:List Term→Int→Int→Bool×Int):Ab.Spec ty:=zk zIf fun x=>((F x.1 x.2.1 x.2.2.1).1,zE7 (F x.1 x.2.1 x.2.2.1).2)
abbrev ttTref05weight0:=List Term×Int×Int×Int×Int×Int×Unit×Int×Unit
abbrev ttTref05weight1:=List Term×Int×Int×Int×Int×Int×Atom
abbrev ttTref05weight2:=List Term×Int×Int×Int×Int×Int
abbrev ttTref05weight3:=List Term×Int×Int×Int×Int×Int×Unit
abbrev ttTref05weight4:=List Term×Int×Int×Int×Int
abbrev ttTref05weight5:=List Term×Int×Int×Int×Int×Unit
def ztg (zC:List Term→Int→Int→Bool×Int) (a:List Term) (limit:Int) (deep:Int) (n_:Int) (i:Int) (k:Int) (j:Int) (x_:Atom):Wy ttTref05weight0 (Atom×Unit) ttTref05weight1:=.i (decide (j<Int.ofNat x_.Args.length)) (.i (decide (n_≤limit)) (.i (decide (0≤j)&&decide (j<Int.ofNat x_.Args.length)) (.bn (zC (x_.Args.getD j.toNat default) (IntKind.i64.wrap (limit - n_)) (IntKind.i64.wrap (deep - 1))) fun r0=>.h (a,limit,deep,(IntKind.i64.wrap (n_+r0)),i,k,(),(IntKind.i64.wrap (j+1)),()) (x_,())) .d) (.k (a,limit,deep,n_,i,k,x_))) (.k (a,limit,deep,n_,i,k,x_))
def zsw (zC:List Term→Int→Int→Bool×Int) (x:ttTref05weight0) (y:Atom×Unit):Wy ttTref05weight0 (Atom×Unit) ttTref05weight1:=ztg zC x.1 x.2.1 x.2.2.1 x.2.2.2.1 x.2.2.2.2.1 x.2.2.2.2.2.1 x.2.2.2.2.2.2.2.1 y.1
def zsB (zC:List Term→Int→Int→Bool×Int) (n:Nat) (a:List Term) (limit:Int) (deep:Int) (n_:Int) (i:Int) (k:Int) (j:Int) (x_:Atom):Bool×ttTref05weight1:=zX (zsw zC) default n (a,limit,deep,n_,i,k,(),j,()) (x_,())
def zyG (r:ttTref05weight1):LTree ty:=.done (.exit 4) [.sl 42 r.1,.lit (.int .i64 r.2.1),.lit (.int .i64 r.2.2.1),.lit (.int .i64 r.2.2.2.1),.lit (.int .i64 r.2.2.2.2.1),.lit (.int .i64 r.2.2.2.2.2.1),.ptr 544 0] [.box (base.enc 48 r.2.2.2.2.2.2) false]
def zBp:LL ty ttTref05weight0:=za (lSl 42) (za (lInt .i64) (za (lInt .i64) (za (lInt .i64) (za (lInt .i64) (za (lInt .i64) (za (ze9 544 0) (za (lInt .i64) zH)))))))
def zBa:BL ty (Atom×Unit):=bBox (zgz (fun x=>(⟨x.1,⟨x.2.1,x.2.2.1⟩,x.2.2.2.1,x.2.2.2.2.1,x.2.2.2.2.2.1,x.2.2.2.2.2.2.1,⟨x.2.2.2.2.2.2.2.1,x.2.2.2.2.2.2.2.2.1,x.2.2.2.2.2.2.2.2.2.1⟩⟩:Atom)) (fun x=>(x.Kind,x.Row.Table,x.Row.Seq,x.Args,x.Func,x.Items,x.Op,x.Bound.Kind,x.Bound.Int,x.Bound.Text,())) (fun _=>rfl) (za (lInt .i64) (za (lInt .i64) (za (lInt .i64) (za (lSl 23) (za (lInt .i64) (za (lSl 52) (za (lInt .i64) (za (lInt .i64) (za (lInt .i64) (za lStr zH))))))))))) false (bNil)
def zsU (zC:List Term→Int→Int→Bool×Int) (a:List Term) (limit:Int) (deep:Int) (n_:Int) (i:Int) (k:Int) (j:Int) (x_:Atom):Wy ttTref05weight0 (Atom×Unit) ttTref05weight2:=.i (decide (j<Int.ofNat x_.Items.length)) (.i (decide (n_≤limit)) (.i (decide (0≤j)&&decide (j<Int.ofNat x_.Items.length)) (.i (decide (0≤j)&&decide (j<Int.ofNat x_.Items.length)) (.bn (zC (x_.Items.getD j.toNat default).Ann (IntKind.i64.wrap (limit - n_)) (IntKind.i64.wrap (deep - 1))) fun r2=>.h (a,limit,deep,(IntKind.i64.wrap (IntKind.i64.wrap (n_+Int.ofNat (x_.Items.getD j.toNat default).Value.Text.size)+r2)),i,k,(),(IntKind.i64.wrap (j+1)),()) (x_,())) .d) .d) (.k (a,limit,deep,n_,i,k))) (.k (a,limit,deep,n_,i,k))
def zsx (zC:List Term→Int→Int→Bool×Int) (x:ttTref05weight0) (y:Atom×Unit):Wy ttTref05weight0 (Atom×Unit) ttTref05weight2:=zsU zC x.1 x.2.1 x.2.2.1 x.2.2.2.1 x.2.2.2.2.1 x.2.2.2.2.2.1 x.2.2.2.2.2.2.2.1 y.1
def zsW (zC:List Term→Int→Int→Bool×Int) (n:Nat) (a:List Term) (limit:Int) (deep:Int) (n_:Int) (i:Int) (k:Int) (j:Int) (x_:Atom):Bool×ttTref05weight2:=zX (zsx zC) default n (a,limit,deep,n_,i,k,(),j,()) (x_,())
def zy0 (r:ttTref05weight2):LTree ty:=.done (.exit 6) [.sl 42 r.1,.lit (.int .i64 r.2.1),.lit (.int .i64 r.2.2.1),.lit (.int .i64 r.2.2.2.1),.lit (.int .i64 r.2.2.2.2.1),.lit (.int .i64 r.2.2.2.2.2)] []
def zAS:LL ty ttTref05weight0:=za (lSl 42) (za (lInt .i64) (za (lInt .i64) (za (lInt .i64) (za (lInt .i64) (za (lInt .i64) (za (ze9 544 0) (za (lInt .i64) zH)))))))
def zBg:BL ty (Atom×Unit):=bBox (zgz (fun x=>(⟨x.1,⟨x.2.1,x.2.2.1⟩,x.2.2.2.1,x.2.2.2.2.1,x.2.2.2.2.2.1,x.2.2.2.2.2.2.1,⟨x.2.2.2.2.2.2.2.1,x.2.2.2.2.2.2.2.2.1,x.2.2.2.2.2.2.2.2.2.1⟩⟩:Atom)) (fun x=>(x.Kind,x.Row.Table,x.Row.Seq,x.Args,x.Func,x.Items,x.Op,x.Bound.Kind,x.Bound.Int,x.Bound.Text,())) (fun _=>rfl) (za (lInt .i64) (za (lInt .i64) (za (lInt .i64) (za (lSl 23) (za (lInt .i64) (za (lSl 52) (za (lInt .i64) (za (lInt .i64) (za (lInt .i64) (za lStr zH))))))))))) false (bNil)
def zuI (zC:List Term→Int→Int→Bool×Int) (a:List Term) (limit:Int) (deep:Int) (n_:Int) (i:Int) (k:Int):Wy ttTref05weight3 (Unit) ttTref05weight4:=.i (decide (0≤i)&&decide (i<Int.ofNat a.length)) (.i (decide (k<Int.ofNat (a.getD i.toNat default).Factors.length)) (.i (decide (n_≤limit)) (.i (decide (0≤i)&&decide (i<Int.ofNat a.length)) (.i (decide (0≤k)&&decide (k<Int.ofNat (a.getD i.toNat default).Factors.length)) (.bn (zsB zC ((a.length+limit.toNat +deep.toNat +(IntKind.i64.wrap (IntKind.i64.wrap (IntKind.i64.wrap (n_+Int.ofNat ((a.getD i.toNat default).Factors.getD k.toNat default).Atom.Items.length)+Int.ofNat ((a.getD i.toNat default).Factors.getD k.toNat default).Atom.Args.length)+Int.ofNat ((a.getD i.toNat default).Factors.getD k.toNat default).Atom.Bound.Text.size)).toNat +i.toNat +k.toNat +Int.toNat 0+1)+(Atom.mk ((a.getD i.toNat default).Factors.getD k.toNat default).Atom.Kind ((a.getD i.toNat default).Factors.getD k.toNat default).Atom.Row ((a.getD i.toNat default).Factors.getD k.toNat default).Atom.Args ((a.getD i.toNat default).Factors.getD k.toNat default).Atom.Func ((a.getD i.toNat default).Factors.getD k.toNat default).Atom.Items ((a.getD i.toNat default).Factors.getD k.toNat default).Atom.Op ((a.getD i.toNat default).Factors.getD k.toNat default).Atom.Bound).Args.length+(Atom.mk ((a.getD i.toNat default).Factors.getD k.toNat default).Atom.Kind ((a.getD i.toNat default).Factors.getD k.toNat default).Atom.Row ((a.getD i.toNat default).Factors.getD k.toNat default).Atom.Args ((a.getD i.toNat default).Factors.getD k.toNat default).Atom.Func ((a.getD i.toNat default).Factors.getD k.toNat default).Atom.Items ((a.getD i.toNat default).Factors.getD k.toNat default).Atom.Op ((a.getD i.toNat default).Factors.getD k.toNat default).Atom.Bound).Items.length) a limit deep (IntKind.i64.wrap (IntKind.i64.wrap (IntKind.i64.wrap (n_+Int.ofNat ((a.getD i.toNat default).Factors.getD k.toNat default).Atom.Items.length)+Int.ofNat ((a.getD i.toNat default).Factors.getD k.toNat default).Atom.Args.length)+Int.ofNat ((a.getD i.toNat default).Factors.getD k.toNat default).Atom.Bound.Text.size)) i k 0 (Atom.mk ((a.getD i.toNat default).Factors.getD k.toNat default).Atom.Kind ((a.getD i.toNat default).Factors.getD k.toNat default).Atom.Row ((a.getD i.toNat default).Factors.getD k.toNat default).Atom.Args ((a.getD i.toNat default).Factors.getD k.toNat default).Atom.Func ((a.getD i.toNat default).Factors.getD k.toNat default).Atom.Items ((a.getD i.toNat default).Factors.getD k.toNat default).Atom.Op ((a.getD i.toNat default).Factors.getD k.toNat default).Atom.Bound)) fun r5=>.bn (zsW zC ((r5.1.length+r5.2.1.toNat +r5.2.2.1.toNat +r5.2.2.2.1.toNat +r5.2.2.2.2.1.toNat +r5.2.2.2.2.2.1.toNat +Int.toNat 0+1)+(Atom.mk r5.2.2.2.2.2.2.Kind r5.2.2.2.2.2.2.Row r5.2.2.2.2.2.2.Args r5.2.2.2.2.2.2.Func r5.2.2.2.2.2.2.Items r5.2.2.2.2.2.2.Op r5.2.2.2.2.2.2.Bound).Args.length+(Atom.mk r5.2.2.2.2.2.2.Kind r5.2.2.2.2.2.2.Row r5.2.2.2.2.2.2.Args r5.2.2.2.2.2.2.Func r5.2.2.2.2.2.2.Items r5.2.2.2.2.2.2.Op r5.2.2.2.2.2.2.Bound).Items.length) r5.1 r5.2.1 r5.2.2.1 r5.2.2.2.1 r5.2.2.2.2.1 r5.2.2.2.2.2.1 0 (Atom.mk r5.2.2.2.2.2.2.Kind r5.2.2.2.2.2.2.Row r5.2.2.2.2.2.2.Args r5.2.2.2.2.2.2.Func r5.2.2.2.2.2.2.Items r5.2.2.2.2.2.2.Op r5.2.2.2.2.2.2.Bound)) fun r4=>.h ((r4.1),(r4.2.1),(r4.2.2.1),(r4.2.2.2.1),(r4.2.2.2.2.1),(IntKind.i64.wrap (r4.2.2.2.2.2+1)),()) ()) .d) .d) (.k (a,limit,deep,n_,i))) (.k (a,limit,deep,n_,i))) .d
def zux (zC:List Term→Int→Int→Bool×Int) (x:ttTref05weight3) (y:Unit):Wy ttTref05weight3 (Unit) ttTref05weight4:=zuI zC x.1 x.2.1 x.2.2.1 x.2.2.2.1 x.2.2.2.2.1 x.2.2.2.2.2.1
def zus (zC:List Term→Int→Int→Bool×Int) (n:Nat) (a:List Term) (limit:Int) (deep:Int) (n_:Int) (i:Int) (k:Int):Bool×ttTref05weight4:=zX (zux zC) default n (a,limit,deep,n_,i,k,()) ()
def zAz (r:ttTref05weight4):LTree ty:=.done (.exit 2) [.sl 42 r.1,.lit (.int .i64 r.2.1),.lit (.int .i64 r.2.2.1),.lit (.int .i64 r.2.2.2.1),.lit (.int .i64 r.2.2.2.2)] []
def zCt:LL ty ttTref05weight3:=za (lSl 42) (za (lInt .i64) (za (lInt .i64) (za (lInt .i64) (za (lInt .i64) (za (lInt .i64) zH)))))
def zCJ:BL ty (Unit):=bNil
def zut (zC:List Term→Int→Int→Bool×Int) (a:List Term) (limit:Int) (deep:Int) (n_:Int) (i:Int):Wy ttTref05weight5 (Unit) (Int):=.i (decide (i<Int.ofNat a.length)) (.i (decide (n_≤limit)) (.i (decide (0≤i)&&decide (i<Int.ofNat a.length)) (.bn (zus zC (a.length+limit.toNat +deep.toNat +(IntKind.i64.wrap (IntKind.i64.wrap (n_+1)+Int.ofNat (a.getD i.toNat default).Factors.length)).toNat +i.toNat +Int.toNat 0+1) a limit deep (IntKind.i64.wrap (IntKind.i64.wrap (n_+1)+Int.ofNat (a.getD i.toNat default).Factors.length)) i 0) fun r8=>.h ((r8.1),(r8.2.1),(r8.2.2.1),(r8.2.2.2.1),(IntKind.i64.wrap (r8.2.2.2.2+1)),()) ()) .d) (.k n_)) (.k n_)
def zuJ (zC:List Term→Int→Int→Bool×Int) (x:ttTref05weight5) (y:Unit):Wy ttTref05weight5 (Unit) (Int):=zut zC x.1 x.2.1 x.2.2.1 x.2.2.2.1 x.2.2.2.2.1
def zuA (zC:List Term→Int→Int→Bool×Int) (n:Nat) (a:List Term) (limit:Int) (deep:Int) (n_:Int) (i:Int):Bool×Int:=zX (zuJ zC) default n (a,limit,deep,n_,i,()) ()
def zAL (r:Int):LTree ty:=.done (.exit 0) [.lit (.int .i64 r)] []
def zCW:LL ty ttTref05weight5:=za (lSl 42) (za (lInt .i64) (za (lInt .i64) (za (lInt .i64) (za (lInt .i64) zH))))
def zCd:BL ty (Unit):=bNil
def zyQ (x:ttTref05weight0) (y:Atom×Unit):Nat:=((x.1.length+Int.toNat x.2.1+Int.toNat x.2.2.1+Int.toNat x.2.2.2.1+Int.toNat x.2.2.2.2.1+Int.toNat x.2.2.2.2.2.1+Int.toNat x.2.2.2.2.2.2.2.1+1)+y.1.Args.length+y.1.Items.length)
def zy1 (x:ttTref05weight0) (y:Atom×Unit):Nat:=((x.1.length+Int.toNat x.2.1+Int.toNat x.2.2.1+Int.toNat x.2.2.2.1+Int.toNat x.2.2.2.2.1+Int.toNat x.2.2.2.2.2.1+Int.toNat x.2.2.2.2.2.2.2.1+1)+y.1.Args.length+y.1.Items.length)
def zAB (x:ttTref05weight3) (y:Unit):Nat:=(x.1.length+Int.toNat x.2.1+Int.toNat x.2.2.1+Int.toNat x.2.2.2.1+Int.toNat x.2.2.2.2.1+Int.toNat x.2.2.2.2.2.1+1)
def zz9 (x:ttTref05weight5) (y:Unit):Nat:=(x.1.length+Int.toNat x.2.1+Int.toNat x.2.2.1+Int.toNat x.2.2.2.1+Int.toNat x.2.2.2.2.1+1)
def zl6 (zC:List Term→Int→Int→Bool×Int):Cx ty:=mkCx base 136 [(52,(zpz zC))] [] [(5,[(0,.keep),(1,.keep),(2,.keep),(7,.keep),(8,.keep)]),(9,[(0,.keep),(1,.keep),(2,.keep),(7,.keep),(8,.keep),(9,.keep)]),(14,[(0,.keep),(1,.keep),(2,.keep),(7,.keep),(8,.keep),(9,.keep),(10,.keep),(11,.keep)]),(18,[(0,.keep),(1,.keep),(2,.keep),(7,.keep),(8,.keep),(9,.keep),(10,.keep),(12,.keep)])] [(5,1,[(7,.keep)]),(9,3,[(0,.keep),(1,.keep),(2,.keep),(7,.keep),(8,.keep)]),(14,5,[(0,.keep),(1,.keep),(2,.keep),(7,.keep),(8,.keep),(9,.keep),(10,.keep)]),(18,7,[(0,.keep),(1,.keep),(2,.keep),(7,.keep),(8,.keep),(9,.keep)])] [(14,spW zBp zBa (zsw zC) default zyG zyQ),(18,spW zAS zBg (zsx zC) default zy0 zy1),(9,spW zCt zCJ (zux zC) default zAz zAB),(5,spW zCW zCd (zuJ zC) default zAL zz9)] []
theorem zKR (zC:List Term→Int→Int→Bool×Int):zW (zl6 zC) (lp (body Tryz.f52) 2):=zK (id:=14) (V:=zBp) (B:=zBa) (W:=zsw zC) (z:=default) (tr:=zyG) (m:=zyQ)
theorem zKU (zC:List Term→Int→Int→Bool×Int):zW (zl6 zC) (lp (body Tryz.f52) 3):=zK (id:=18) (V:=zAS) (B:=zBg) (W:=zsx zC) (z:=default) (tr:=zy0) (m:=zy1)
theorem zKZ (zC:List Term→Int→Int→Bool×Int):zW (zl6 zC) (lp (body Tryz.f52) 1):=zK (id:=9) (V:=zCt) (B:=zCJ) (W:=zux zC) (z:=default) (tr:=zAz) (m:=zAB)
theorem zMg (zC:List Term→Int→Int→Bool×Int):zW (zl6 zC) (lp (body Tryz.f52) 0):=zK (id:=5) (V:=zCW) (B:=zCd) (W:=zuJ zC) (z:=default) (tr:=zAL) (m:=zz9)
def zqI (zC:List Term→Int→Int→Bool×Int) (a:List Term) (limit:Int) (deep:Int):Wy0 (Int):=.i (deep==0) (.k (IntKind.i64.wrap (limit+1))) (.bn (zuA zC (a.length+limit.toNat +deep.toNat +Int.toNat 0+Int.toNat 0+1) a limit deep 0 0) fun r10=>.k r10)
def zpF (zC:List Term→Int→Int→Bool×Int) (a:List Term) (limit:Int) (deep:Int):Bool×Int:=(zqI zC a limit deep).fin default
theorem zI4 (zC:List Term→Int→Int→Bool×Int) (zN5:Sound Tryz.prog base 52 (zpz zC)):Sound Tryz.prog base 52 (zpz (zpF zC)):=
 zn (cx':=(zl6 zC)) zJ zl zw (zm ⟨zN5,trivial⟩) Tryz.call52 Tryz.func52 (c:=body Tryz.f52) (by kernel_rfl) (zh (l:=[lp (body Tryz.f52) 0,lp (body Tryz.f52) 1,lp (body Tryz.f52) 2,lp (body Tryz.f52) 3]) (by kernel_rfl) ⟨zMg zC,zKZ zC,zKR zC,zKU zC,trivial⟩) (sg:=⟨[.pure],[]⟩) (A:=zIf) (res:=zE7) (W:=fun x=>zqI zC x.1 x.2.1 x.2.2.1) (z:=default)
def zNX:Nat→(List Term→Int→Int→Bool×Int)
 | 0=>fun _ _ _=>(false,default)
 | n+1=>zpF (zNX n)
def zmJ (n:Nat):List Term→Int→Int→Bool×Int:=zNX n
theorem zCF (n:Nat):zmJ (n+1)=zpF (zmJ n):=rfl
theorem zKg:∀ n,Sound Tryz.prog base 52 (zpz (zmJ n))
 | 0=>zbj Tryz.call52 (fun _=>rfl)
 | n+1=>by
  have ih:=zKg n
  exact zI4 _ (ih)
def zEP:List Term→Int→Int→Bool×Int:=zmJ 1000
def ref05_weight_spec:Ab.Spec ty:=zpz zEP
theorem zLc:Sound Tryz.prog base 52 ref05_weight_spec:=(zKg 1000)
abbrev ttTref05Few0:=Int×List (List Term)×Int×Unit
def zEo (limit:Int) (l:List (List Term)) (i:Int):Wy ttTref05Few0 (Unit) (Bool⊕Unit):=.i (decide (i<Int.ofNat l.length)) (.i (decide (0≤i)&&decide (i<Int.ofNat l.length)) (.bn (zEP (l.getD i.toNat default) limit 12) fun r0=>.i (decide (r0>limit)) (.k (.inl false)) (.h (limit,l,(IntKind.i64.wrap (i+1)),()) ())) .d) (.k (.inr ()))
def zDQ (x:ttTref05Few0) (y:Unit):Wy ttTref05Few0 (Unit) (Bool⊕Unit):=zEo x.1 x.2.1 x.2.2.1
def zDz (n:Nat) (limit:Int) (l:List (List Term)) (i:Int):Bool×(Bool⊕Unit):=zX (zDQ) (.inl default) n (limit,l,i,()) ()
def zKe (r:Bool⊕Unit):LTree ty:=.ite (isL r) (.done .ret [.lit (.bool (getL r))] []) (.done (.exit 0) [] [])
def zMc:LL ty ttTref05Few0:=za (lInt .i64) (za (lSl 23) (za (lInt .i64) zH))
def zLS:BL ty (Unit):=bNil
def zJH (x:ttTref05Few0) (y:Unit):Nat:=(Int.toNat x.1+x.2.1.length+Int.toNat x.2.2.1+1)
def zLy:Cx ty:=mkCx base 20 [(52,ref05_weight_spec)] [] [(2,[(0,.keep),(1,.keep),(5,.keep)])] [(2,1,[]),(2,0,[(4,.keep)])] [(2,spW zMc zLS (zDQ) (.inl default) zKe zJH)] []
theorem zRU:zW zLy (lp (body Tryz.f12) 0):=zK (id:=2) (V:=zMc) (B:=zLS) (W:=zDQ) (z:=.inl default) (tr:=zKe) (m:=zJH)
def zG7 (limit:Int) (l:List (List Term)):Wy0 (Bool):=.bn (zDz (limit.toNat +l.length+Int.toNat 0+1) limit l 0) fun r2=>.i (isL r2) (.k (getL r2)) (.k true)
def zp7 (limit:Int) (l:List (List Term)):Bool×Bool:=(zG7 limit l).fin default
def zJG (r:Bool):ARes ty:=⟨[.pure (.lit (.bool r))],[]⟩
def zNS:AL base (Int×List (List Term)×Unit):=zf (zg (vInt .i64)) (zf (zg (vSl 23)) aNil)
def zIq:Ab.Spec ty:=zk zNS fun x=>((zp7 x.1 x.2.1).1,zJG (zp7 x.1 x.2.1).2)
theorem zO5:Sound Tryz.prog base 12 zIq:=
 zn (cx':=zLy) zJ zl zw (zm ⟨zLc,trivial⟩) Tryz.call12 Tryz.func12 (c:=body Tryz.f12) (by kernel_rfl) (zh (l:=[lp (body Tryz.f12) 0]) (by kernel_rfl) ⟨zRU,trivial⟩) (sg:=⟨[.pure],[]⟩) (A:=zNS) (res:=zJG) (W:=fun x=>zG7 x.1 x.2.1) (z:=default)
abbrev ttTlaw05few0:=List Term×List Binding×Int×Unit
abbrev ttTlaw05few1:=Bool⊕(List Term×List Binding)
def zEQ (a:List Term) (l:List Binding) (i:Int):Wy ttTlaw05few0 (Unit) ttTlaw05few1:=.i (decide (i<Int.ofNat l.length)) (.i (decide (0≤i)&&decide (i<Int.ofNat l.length)) (.bn (zp7 12 [(l.getD i.toNat default).To]) fun r0=>.i (!r0) (.k (.inl false)) (.h (a,l,(IntKind.i64.wrap (i+1)),()) ())) .d) (.k (.inr (a,l)))
def zDL (x:ttTlaw05few0) (y:Unit):Wy ttTlaw05few0 (Unit) ttTlaw05few1:=zEQ x.1 x.2.1 x.2.2.1
def zE3 (n:Nat) (a:List Term) (l:List Binding) (i:Int):Bool×ttTlaw05few1:=zX (zDL) (.inl default) n (a,l,i,()) ()
def zJP (r:ttTlaw05few1):LTree ty:=.ite (isL r) (.done .ret [.lit (.bool (getL r))] []) (.done (.exit 0) [.sl 42 (getR r).1,.sl 69 (getR r).2] [])
def zLJ:LL ty ttTlaw05few0:=za (lSl 42) (za (lSl 69) (za (lInt .i64) zH))
def zMp:BL ty (Unit):=bNil
def zJ5 (x:ttTlaw05few0) (y:Unit):Nat:=(x.1.length+x.2.1.length+Int.toNat x.2.2.1+1)
def zMa:Cx ty:=mkCx base 28 [(12,zIq)] [] [(2,[(0,.keep),(1,.keep),(5,.keep)])] [(2,1,[(0,.keep),(1,.keep)]),(2,0,[(4,.keep)])] [(2,spW zLJ zMp (zDL) (.inl default) zJP zJ5)] []
theorem zRL:zW zMa (lp (body Tryz.f40) 0):=zK (id:=2) (V:=zLJ) (B:=zMp) (W:=zDL) (z:=.inl default) (tr:=zJP) (m:=zJ5)
def zG0 (a:List Term) (l:List Binding):Wy0 (Bool):=.bn (zE3 (a.length+l.length+Int.toNat 0+1) a l 0) fun r3=>.i (isL r3) (.k (getL r3)) (.i (decide (Int.ofNat (getR r3).2.length≤4)) (.bn (zp7 30 [(getR r3).1]) fun r2=>.k r2) (.k false))
def zAU (a:List Term) (l:List Binding):Bool×Bool:=(zG0 a l).fin default
def zJ9 (r:Bool):ARes ty:=⟨[.pure (.lit (.bool r))],[]⟩
def zNs:AL base (List Term×List Binding×Unit):=zf (zg (vSl 42)) (zf (zg (vSl 69)) aNil)
def zHg:Ab.Spec ty:=zk zNs fun x=>((zAU x.1 x.2.1).1,zJ9 (zAU x.1 x.2.1).2)
theorem zPE:Sound Tryz.prog base 40 zHg:=
 zn (cx':=zMa) zJ zl zw (zm ⟨zO5,trivial⟩) Tryz.call40 Tryz.func40 (c:=body Tryz.f40) (by kernel_rfl) (zh (l:=[lp (body Tryz.f40) 0]) (by kernel_rfl) ⟨zRL,trivial⟩) (sg:=⟨[.pure],[]⟩) (A:=zNs) (res:=zJ9) (W:=fun x=>zG0 x.1 x.2.1) (z:=default)
def zCu (r:Int):ARes ty:=⟨[.pure (.lit (.int .i64 r))],[]⟩
def zFD:AL base (List Term×List Term×Unit):=zf (zg (vSl 42)) (zf (zg (vSl 42)) aNil)
def zjE (F:List Term→List Term→Bool×Int):Ab.Spec ty:=zk zFD fun x=>((F x.1 x.2.1).1,zCu (F x.1 x.2.1).2)
def zsQ (r:Int):ARes ty:=⟨[.pure (.lit (.int .i64 r))],[]⟩
def zvb:AL base (List Factor×List Factor×Unit):=zf (zg (vSl 50)) (zf (zg (vSl 50)) aNil)
def zif (F:List Factor→List Factor→Bool×Int):Ab.Spec ty:=zk zvb fun x=>((F x.1 x.2.1).1,zsQ (F x.1 x.2.1).2)
def zwv (r:Int):ARes ty:=⟨[.pure (.lit (.int .i64 r))],[]⟩
def zyA:AL base (Atom×Atom×Unit):=zf (zg (vAgg 48)) (zf (zg (vAgg 48)) aNil)
def zkl (F:Atom→Atom→Bool×Int):Ab.Spec ty:=zk zyA fun x=>((F x.1 x.2.1).1,zwv (F x.1 x.2.1).2)
def zvx (r:Int):ARes ty:=⟨[.pure (.lit (.int .i64 r))],[]⟩
def zxg:AL base (List Weighted×List Weighted×Unit):=zf (zg (vSl 52)) (zf (zg (vSl 52)) aNil)
def zjj (F:List Weighted→List Weighted→Bool×Int):Ab.Spec ty:=zk zxg fun x=>((F x.1 x.2.1).1,zvx (F x.1 x.2.1).2)
def zO2:Cx ty:=mkCx base 11 [] [] [] [] [] []
def zzl (a:Int) (b:Int):Wy0 (Int):=.i (decide (a<b)) (.k (-1:Int)) (.i (decide (a>b)) (.k 1) (.k 0))
def zcq (a:Int) (b:Int):Bool×Int:=(zzl a b).fin default
def zEw (r:Int):ARes ty:=⟨[.pure (.lit (.int .i64 r))],[]⟩
def zHE:AL base (Int×Int×Unit):=zf (zg (vInt .i64)) (zf (zg (vInt .i64)) aNil)
def zhW:Ab.Spec ty:=zk zHE fun x=>((zcq x.1 x.2.1).1,zEw (zcq x.1 x.2.1).2)
theorem ziH:Sound Tryz.prog base 82 zhW:=
 zn (cx':=zO2) zJ zl zw (zm trivial) Tryz.call82 Tryz.func82 (c:=body Tryz.f82) (by kernel_rfl) (zh (l:=[]) (by kernel_rfl) trivial) (sg:=⟨[.pure],[]⟩) (A:=zHE) (res:=zEw) (W:=fun x=>zzl x.1 x.2.1) (z:=default)
abbrev ttTref05Compare0:=List Term×List Term×Int×Unit
abbrev ttTref05Compare1:=Int⊕(List Term×List Term)
def zLD (zba:List Factor→List Factor→Bool×Int) (a:List Term) (b:List Term) (i:Int):Wy ttTref05Compare0 (Unit) ttTref05Compare1:=.i (decide (i<Int.ofNat a.length)) (.i (decide (i<Int.ofNat b.length)) (.i (decide (0≤i)&&decide (i<Int.ofNat a.length)) (.i (decide (0≤i)&&decide (i<Int.ofNat b.length)) (.bn (zba (a.getD i.toNat default).Factors (b.getD i.toNat default).Factors) fun r1=>.i (r1 != 0) (.k (.inl (r1))) (.i (decide (0≤i)&&decide (i<Int.ofNat a.length)) (.i (decide (0≤i)&&decide (i<Int.ofNat b.length)) (.bn (zcq (a.getD i.toNat default).Coeff (b.getD i.toNat default).Coeff) fun r0=>.i (r0 != 0) (.k (.inl (r0))) (.h (a,b,(IntKind.i64.wrap (i+1)),()) ())) .d) .d)) .d) .d) (.k (.inr (a,b)))) (.k (.inr (a,b)))
def ztm (zba:List Factor→List Factor→Bool×Int) (x:ttTref05Compare0) (y:Unit):Wy ttTref05Compare0 (Unit) ttTref05Compare1:=zLD zba x.1 x.2.1 x.2.2.1
def zLU (zba:List Factor→List Factor→Bool×Int) (n:Nat) (a:List Term) (b:List Term) (i:Int):Bool×ttTref05Compare1:=zX (ztm zba) (.inl default) n (a,b,i,()) ()
def zy7 (r:ttTref05Compare1):LTree ty:=.ite (isL r) (.done .ret [.lit (.int .i64 (getL r))] []) (.done (.exit 0) [.sl 42 (getR r).1,.sl 42 (getR r).2] [])
def zA8:LL ty ttTref05Compare0:=za (lSl 42) (za (lSl 42) (za (lInt .i64) zH))
def zAd:BL ty (Unit):=bNil
def zy2 (x:ttTref05Compare0) (y:Unit):Nat:=(x.1.length+x.2.1.length+Int.toNat x.2.2.1+1)
def zAf (zba:List Factor→List Factor→Bool×Int):Cx ty:=mkCx base 53 [(82,zhW),(89,(zif zba))] [] [(2,[(0,.keep),(1,.keep),(5,.keep)])] [(2,1,[(0,.keep),(1,.keep)]),(2,0,[(4,.keep)])] [(2,spW zA8 zAd (ztm zba) (.inl default) zy7 zy2)] []
theorem zKC (zba:List Factor→List Factor→Bool×Int):zW (zAf zba) (lp (body Tryz.f39) 0):=zK (id:=2) (V:=zA8) (B:=zAd) (W:=ztm zba) (z:=.inl default) (tr:=zy7) (m:=zy2)
def zCH (zba:List Factor→List Factor→Bool×Int) (a:List Term) (b:List Term):Wy0 (Int):=.bn (zLU zba (a.length+b.length+Int.toNat 0+1) a b 0) fun r5=>.i (isL r5) (.k (getL r5)) (.bn (zcq (Int.ofNat (getR r5).1.length) (Int.ofNat (getR r5).2.length)) fun r4=>.k r4)
def zrL (zba:List Factor→List Factor→Bool×Int) (a:List Term) (b:List Term):Bool×Int:=(zCH zba a b).fin default
theorem zHL (zba:List Factor→List Factor→Bool×Int) (zD5:Sound Tryz.prog base 89 (zif zba)):Sound Tryz.prog base 39 (zjE (zrL zba)):=
 zn (cx':=(zAf zba)) zJ zl zw (zm ⟨ziH,zD5,trivial⟩) Tryz.call39 Tryz.func39 (c:=body Tryz.f39) (by kernel_rfl) (zh (l:=[lp (body Tryz.f39) 0]) (by kernel_rfl) ⟨zKC zba,trivial⟩) (sg:=⟨[.pure],[]⟩) (A:=zFD) (res:=zCu) (W:=fun x=>zCH zba x.1 x.2.1) (z:=default)
def zRC:Cx ty:=mkCx base 4 [] [] [] [] [] []
def zEg (less:Bool):Wy0 (Int):=.i (less) (.k (-1:Int)) (.k 1)
def ztI (less:Bool):Bool×Int:=(zEg less).fin default
def zIC (r:Int):ARes ty:=⟨[.pure (.lit (.int .i64 r))],[]⟩
def zMA:AL base (Bool×Unit):=zf (zg zZw) aNil
def zFQ:Ab.Spec ty:=zk zMA fun x=>((ztI x.1).1,zIC (ztI x.1).2)
theorem zOh:Sound Tryz.prog base 138 zFQ:=
 zn (cx':=zRC) zJ zl zw (zm trivial) Tryz.call138 Tryz.func138 (c:=body Tryz.f138) (by kernel_rfl) (zh (l:=[]) (by kernel_rfl) trivial) (sg:=⟨[.pure],[]⟩) (A:=zMA) (res:=zIC) (W:=fun x=>zEg x.1) (z:=default)
def zOg:Cx ty:=mkCx base 38 [(138,zFQ)] [] [] [] [] []
def zxi (a:Value) (b:Value):Wy0 (Int):=.i (a.Kind != b.Kind) (.bn (ztI (decide (a.Kind<b.Kind))) fun r0=>.k r0) (.i (a.Int != b.Int) (.bn (ztI (decide (a.Int<b.Int))) fun r1=>.k r1) (.i (!a.Text.toList==b.Text.toList) (.bn (ztI (Op.bytesLess a.Text.toList b.Text.toList)) fun r2=>.k r2) (.k 0)))
def zlE (a:Value) (b:Value):Bool×Int:=(zxi a b).fin default
def zCy (r:Int):ARes ty:=⟨[.pure (.lit (.int .i64 r))],[]⟩
def zFF:AL base (Value×Value×Unit):=zf (zg (vAgg 46)) (zf (zg (vAgg 46)) aNil)
def zsR:Ab.Spec ty:=zk zFF fun x=>((zlE x.1 x.2.1).1,zCy (zlE x.1 x.2.1).2)
theorem zyx:Sound Tryz.prog base 83 zsR:=
 zn (cx':=zOg) zJ zl zw (zm ⟨zOh,trivial⟩) Tryz.call83 Tryz.func83 (c:=body Tryz.f83) (by kernel_rfl) (zh (l:=[]) (by kernel_rfl) trivial) (sg:=⟨[.pure],[]⟩) (A:=zFF) (res:=zCy) (W:=fun x=>zxi x.1 x.2.1) (z:=default)
def zKG:Cx ty:=mkCx base 19 [(82,zhW)] [] [] [] [] []
def zsu (a:RowID) (b:RowID):Wy0 (Int):=.bn (zcq a.Table b.Table) fun r1=>.i (r1 != 0) (.k r1) (.bn (zcq a.Seq b.Seq) fun r0=>.k r0)
def znd (a:RowID) (b:RowID):Bool×Int:=(zsu a b).fin default
def zwT (r:Int):ARes ty:=⟨[.pure (.lit (.int .i64 r))],[]⟩
def zAD:AL base (RowID×RowID×Unit):=zf (zg (vAgg 25)) (zf (zg (vAgg 25)) aNil)
def zwc:Ab.Spec ty:=zk zAD fun x=>((znd x.1 x.2.1).1,zwT (znd x.1 x.2.1).2)
theorem zGQ:Sound Tryz.prog base 146 zwc:=
 zn (cx':=zKG) zJ zl zw (zm ⟨ziH,trivial⟩) Tryz.call146 Tryz.func146 (c:=body Tryz.f146) (by kernel_rfl) (zh (l:=[]) (by kernel_rfl) trivial) (sg:=⟨[.pure],[]⟩) (A:=zAD) (res:=zwT) (W:=fun x=>zsu x.1 x.2.1) (z:=default)
abbrev ttTref05CompareAtom0:=Unit×Unit×Int×Unit
abbrev ttTref05CompareAtom1:=Atom×Atom×Unit
abbrev ttTref05CompareAtom2:=Int⊕(Atom×Atom)
def zou (zbg:List Weighted→List Weighted→Bool×Int) (zN:List Term→List Term→Bool×Int) (i:Int) (a:Atom) (b:Atom):Wy ttTref05CompareAtom0 ttTref05CompareAtom1 ttTref05CompareAtom2:=.i (decide (i<Int.ofNat a.Args.length)) (.i (decide (i<Int.ofNat b.Args.length)) (.i (decide (0≤i)&&decide (i<Int.ofNat a.Args.length)) (.i (decide (0≤i)&&decide (i<Int.ofNat b.Args.length)) (.bn (zN (a.Args.getD i.toNat default) (b.Args.getD i.toNat default)) fun r0=>.i (r0 != 0) (.k (.inl (r0))) (.h ((),(),(IntKind.i64.wrap (i+1)),()) (a,b,()))) .d) .d) (.k (.inr (a,b)))) (.k (.inr (a,b)))
def zoz (zbg:List Weighted→List Weighted→Bool×Int) (zN:List Term→List Term→Bool×Int) (x:ttTref05CompareAtom0) (y:ttTref05CompareAtom1):Wy ttTref05CompareAtom0 ttTref05CompareAtom1 ttTref05CompareAtom2:=zou zbg zN x.2.2.1 y.1 y.2.1
def zoJ (zbg:List Weighted→List Weighted→Bool×Int) (zN:List Term→List Term→Bool×Int) (n:Nat) (i:Int) (a:Atom) (b:Atom):Bool×ttTref05CompareAtom2:=zX (zoz zbg zN) (.inl default) n ((),(),i,()) (a,b,())
def zt9 (r:ttTref05CompareAtom2):LTree ty:=.ite (isL r) (.done .ret [.lit (.int .i64 (getL r))] []) (.done (.exit 0) [.ptr 384 0,.ptr 385 0] [.box (base.enc 48 (getR r).1) false,.box (base.enc 48 (getR r).2) false])
def zuZ:LL ty ttTref05CompareAtom0:=za (ze9 384 0) (za (ze9 385 0) (za (lInt .i64) zH))
def zvo:BL ty ttTref05CompareAtom1:=bBox (zgz (fun x=>(⟨x.1,⟨x.2.1,x.2.2.1⟩,x.2.2.2.1,x.2.2.2.2.1,x.2.2.2.2.2.1,x.2.2.2.2.2.2.1,⟨x.2.2.2.2.2.2.2.1,x.2.2.2.2.2.2.2.2.1,x.2.2.2.2.2.2.2.2.2.1⟩⟩:Atom)) (fun x=>(x.Kind,x.Row.Table,x.Row.Seq,x.Args,x.Func,x.Items,x.Op,x.Bound.Kind,x.Bound.Int,x.Bound.Text,())) (fun _=>rfl) (za (lInt .i64) (za (lInt .i64) (za (lInt .i64) (za (lSl 23) (za (lInt .i64) (za (lSl 52) (za (lInt .i64) (za (lInt .i64) (za (lInt .i64) (za lStr zH))))))))))) false (bBox (zgz (fun x=>(⟨x.1,⟨x.2.1,x.2.2.1⟩,x.2.2.2.1,x.2.2.2.2.1,x.2.2.2.2.2.1,x.2.2.2.2.2.2.1,⟨x.2.2.2.2.2.2.2.1,x.2.2.2.2.2.2.2.2.1,x.2.2.2.2.2.2.2.2.2.1⟩⟩:Atom)) (fun x=>(x.Kind,x.Row.Table,x.Row.Seq,x.Args,x.Func,x.Items,x.Op,x.Bound.Kind,x.Bound.Int,x.Bound.Text,())) (fun _=>rfl) (za (lInt .i64) (za (lInt .i64) (za (lInt .i64) (za (lSl 23) (za (lInt .i64) (za (lSl 52) (za (lInt .i64) (za (lInt .i64) (za (lInt .i64) (za lStr zH))))))))))) false (bNil))
def zun (x:ttTref05CompareAtom0) (y:ttTref05CompareAtom1):Nat:=((Int.toNat x.2.2.1+1)+y.1.Args.length+y.1.Items.length+y.2.1.Args.length+y.2.1.Items.length)
def zu0 (zbg:List Weighted→List Weighted→Bool×Int) (zN:List Term→List Term→Bool×Int):Cx ty:=mkCx base 96 [(35,(zjj zbg)),(39,(zjE zN)),(82,zhW),(83,zsR),(146,zwc)] [] [(8,[(2,.keep),(3,.keep),(7,.keep)])] [(8,1,[(2,.keep),(3,.keep)]),(8,0,[(4,.keep)])] [(8,spW zuZ zvo (zoz zbg zN) (.inl default) zt9 zun)] []
theorem zFl (zbg:List Weighted→List Weighted→Bool×Int) (zN:List Term→List Term→Bool×Int):zW (zu0 zbg zN) (lp (body Tryz.f104) 0):=zK (id:=8) (V:=zuZ) (B:=zvo) (W:=zoz zbg zN) (z:=.inl default) (tr:=zt9) (m:=zun)
def zpp (zbg:List Weighted→List Weighted→Bool×Int) (zN:List Term→List Term→Bool×Int) (a:Atom) (b:Atom):Wy0 (Int):=.bn (zcq a.Kind b.Kind) fun r9=>.i (r9 != 0) (.k r9) (.bn (znd a.Row b.Row) fun r8=>.i (r8 != 0) (.k r8) (.bn (zoJ zbg zN ((Int.toNat 0+1)+(Atom.mk a.Kind a.Row a.Args a.Func a.Items a.Op a.Bound).Args.length+(Atom.mk a.Kind a.Row a.Args a.Func a.Items a.Op a.Bound).Items.length+(Atom.mk b.Kind b.Row b.Args b.Func b.Items b.Op b.Bound).Args.length+(Atom.mk b.Kind b.Row b.Args b.Func b.Items b.Op b.Bound).Items.length) 0 (Atom.mk a.Kind a.Row a.Args a.Func a.Items a.Op a.Bound) (Atom.mk b.Kind b.Row b.Args b.Func b.Items b.Op b.Bound)) fun r7=>.i (isL r7) (.k (getL r7)) (.bn (zcq (Int.ofNat (getR r7).1.Args.length) (Int.ofNat (getR r7).2.Args.length)) fun r6=>.i (r6 != 0) (.k r6) (.bn (zcq (getR r7).1.Func (getR r7).2.Func) fun r5=>.i (r5 != 0) (.k r5) (.bn (zbg (getR r7).1.Items (getR r7).2.Items) fun r4=>.i (r4 != 0) (.k r4) (.bn (zcq (getR r7).1.Op (getR r7).2.Op) fun r3=>.i (r3 != 0) (.k r3) (.bn (zlE (getR r7).1.Bound (getR r7).2.Bound) fun r2=>.k r2)))))))
def zkh (zbg:List Weighted→List Weighted→Bool×Int) (zN:List Term→List Term→Bool×Int) (a:Atom) (b:Atom):Bool×Int:=(zpp zbg zN a b).fin default
theorem zC8 (zbg:List Weighted→List Weighted→Bool×Int) (zN:List Term→List Term→Bool×Int) (zGS:Sound Tryz.prog base 35 (zjj zbg)) (zuF:Sound Tryz.prog base 39 (zjE zN)):Sound Tryz.prog base 104 (zkl (zkh zbg zN)):=
 zn (cx':=(zu0 zbg zN)) zJ zl zw (zm ⟨zGS,zuF,ziH,zyx,zGQ,trivial⟩) Tryz.call104 Tryz.func104 (c:=body Tryz.f104) (by kernel_rfl) (zh (l:=[lp (body Tryz.f104) 0]) (by kernel_rfl) ⟨zFl zbg zN,trivial⟩) (sg:=⟨[.pure],[]⟩) (A:=zyA) (res:=zwv) (W:=fun x=>zpp zbg zN x.1 x.2.1) (z:=default)
abbrev ttTref05CompareFactors0:=List Factor×List Factor×Int×Unit
abbrev ttTref05CompareFactors1:=Int⊕(List Factor×List Factor)
def zrY (zbk:Atom→Atom→Bool×Int) (a:List Factor) (b:List Factor) (i:Int):Wy ttTref05CompareFactors0 (Unit) ttTref05CompareFactors1:=.i (decide (i<Int.ofNat a.length)) (.i (decide (i<Int.ofNat b.length)) (.i (decide (0≤i)&&decide (i<Int.ofNat a.length)) (.i (decide (0≤i)&&decide (i<Int.ofNat b.length)) (.bn (zbk (Atom.mk (a.getD i.toNat default).Atom.Kind (a.getD i.toNat default).Atom.Row (a.getD i.toNat default).Atom.Args (a.getD i.toNat default).Atom.Func (a.getD i.toNat default).Atom.Items (a.getD i.toNat default).Atom.Op (a.getD i.toNat default).Atom.Bound) (Atom.mk (b.getD i.toNat default).Atom.Kind (b.getD i.toNat default).Atom.Row (b.getD i.toNat default).Atom.Args (b.getD i.toNat default).Atom.Func (b.getD i.toNat default).Atom.Items (b.getD i.toNat default).Atom.Op (b.getD i.toNat default).Atom.Bound)) fun r1=>.i (r1 != 0) (.k (.inl (r1))) (.i (decide (0≤i)&&decide (i<Int.ofNat a.length)) (.i (decide (0≤i)&&decide (i<Int.ofNat b.length)) (.bn (zcq (a.getD i.toNat default).Exp (b.getD i.toNat default).Exp) fun r0=>.i (r0 != 0) (.k (.inl (r0))) (.h (a,b,(IntKind.i64.wrap (i+1)),()) ())) .d) .d)) .d) .d) (.k (.inr (a,b)))) (.k (.inr (a,b)))
def zf3 (zbk:Atom→Atom→Bool×Int) (x:ttTref05CompareFactors0) (y:Unit):Wy ttTref05CompareFactors0 (Unit) ttTref05CompareFactors1:=zrY zbk x.1 x.2.1 x.2.2.1
def zsb (zbk:Atom→Atom→Bool×Int) (n:Nat) (a:List Factor) (b:List Factor) (i:Int):Bool×ttTref05CompareFactors1:=zX (zf3 zbk) (.inl default) n (a,b,i,()) ()
def zq1 (r:ttTref05CompareFactors1):LTree ty:=.ite (isL r) (.done .ret [.lit (.int .i64 (getL r))] []) (.done (.exit 0) [.sl 50 (getR r).1,.sl 50 (getR r).2] [])
def zrN:LL ty ttTref05CompareFactors0:=za (lSl 50) (za (lSl 50) (za (lInt .i64) zH))
def zr6:BL ty (Unit):=bNil
def zq8 (x:ttTref05CompareFactors0) (y:Unit):Nat:=(x.1.length+x.2.1.length+Int.toNat x.2.2.1+1)
def zr5 (zbk:Atom→Atom→Bool×Int):Cx ty:=mkCx base 53 [(82,zhW),(104,(zkl zbk))] [] [(2,[(0,.keep),(1,.keep),(5,.keep)])] [(2,1,[(0,.keep),(1,.keep)]),(2,0,[(4,.keep)])] [(2,spW zrN zr6 (zf3 zbk) (.inl default) zq1 zq8)] []
theorem zBx (zbk:Atom→Atom→Bool×Int):zW (zr5 zbk) (lp (body Tryz.f89) 0):=zK (id:=2) (V:=zrN) (B:=zr6) (W:=zf3 zbk) (z:=.inl default) (tr:=zq1) (m:=zq8)
def znb (zbk:Atom→Atom→Bool×Int) (a:List Factor) (b:List Factor):Wy0 (Int):=.bn (zsb zbk (a.length+b.length+Int.toNat 0+1) a b 0) fun r5=>.i (isL r5) (.k (getL r5)) (.bn (zcq (Int.ofNat (getR r5).1.length) (Int.ofNat (getR r5).2.length)) fun r4=>.k r4)
def zij (zbk:Atom→Atom→Bool×Int) (a:List Factor) (b:List Factor):Bool×Int:=(znb zbk a b).fin default
theorem zzj (zbk:Atom→Atom→Bool×Int) (zIk:Sound Tryz.prog base 104 (zkl zbk)):Sound Tryz.prog base 89 (zif (zij zbk)):=
 zn (cx':=(zr5 zbk)) zJ zl zw (zm ⟨ziH,zIk,trivial⟩) Tryz.call89 Tryz.func89 (c:=body Tryz.f89) (by kernel_rfl) (zh (l:=[lp (body Tryz.f89) 0]) (by kernel_rfl) ⟨zBx zbk,trivial⟩) (sg:=⟨[.pure],[]⟩) (A:=zvb) (res:=zsQ) (W:=fun x=>znb zbk x.1 x.2.1) (z:=default)
abbrev ttTref05CompareItems0:=List Weighted×List Weighted×Int×Unit
abbrev ttTref05CompareItems1:=Int⊕(List Weighted×List Weighted)
def zFo (zN:List Term→List Term→Bool×Int) (a:List Weighted) (b:List Weighted) (i:Int):Wy ttTref05CompareItems0 (Unit) ttTref05CompareItems1:=.i (decide (i<Int.ofNat a.length)) (.i (decide (i<Int.ofNat b.length)) (.i (decide (0≤i)&&decide (i<Int.ofNat a.length)) (.i (decide (0≤i)&&decide (i<Int.ofNat b.length)) (.bn (zlE (a.getD i.toNat default).Value (b.getD i.toNat default).Value) fun r1=>.i (r1 != 0) (.k (.inl (r1))) (.i (decide (0≤i)&&decide (i<Int.ofNat a.length)) (.i (decide (0≤i)&&decide (i<Int.ofNat b.length)) (.bn (zN (a.getD i.toNat default).Ann (b.getD i.toNat default).Ann) fun r0=>.i (r0 != 0) (.k (.inl (r0))) (.h (a,b,(IntKind.i64.wrap (i+1)),()) ())) .d) .d)) .d) .d) (.k (.inr (a,b)))) (.k (.inr (a,b)))
def znK (zN:List Term→List Term→Bool×Int) (x:ttTref05CompareItems0) (y:Unit):Wy ttTref05CompareItems0 (Unit) ttTref05CompareItems1:=zFo zN x.1 x.2.1 x.2.2.1
def zFt (zN:List Term→List Term→Bool×Int) (n:Nat) (a:List Weighted) (b:List Weighted) (i:Int):Bool×ttTref05CompareItems1:=zX (znK zN) (.inl default) n (a,b,i,()) ()
def zty (r:ttTref05CompareItems1):LTree ty:=.ite (isL r) (.done .ret [.lit (.int .i64 (getL r))] []) (.done (.exit 0) [.sl 52 (getR r).1,.sl 52 (getR r).2] [])
def zug:LL ty ttTref05CompareItems0:=za (lSl 52) (za (lSl 52) (za (lInt .i64) zH))
def zud:BL ty (Unit):=bNil
def ztk (x:ttTref05CompareItems0) (y:Unit):Nat:=(x.1.length+x.2.1.length+Int.toNat x.2.2.1+1)
def zt4 (zN:List Term→List Term→Bool×Int):Cx ty:=mkCx base 53 [(39,(zjE zN)),(82,zhW),(83,zsR)] [] [(2,[(0,.keep),(1,.keep),(5,.keep)])] [(2,1,[(0,.keep),(1,.keep)]),(2,0,[(4,.keep)])] [(2,spW zug zud (znK zN) (.inl default) zty ztk)] []
theorem zEh (zN:List Term→List Term→Bool×Int):zW (zt4 zN) (lp (body Tryz.f35) 0):=zK (id:=2) (V:=zug) (B:=zud) (W:=znK zN) (z:=.inl default) (tr:=zty) (m:=ztk)
def zvB (zN:List Term→List Term→Bool×Int) (a:List Weighted) (b:List Weighted):Wy0 (Int):=.bn (zFt zN (a.length+b.length+Int.toNat 0+1) a b 0) fun r5=>.i (isL r5) (.k (getL r5)) (.bn (zcq (Int.ofNat (getR r5).1.length) (Int.ofNat (getR r5).2.length)) fun r4=>.k r4)
def zmh (zN:List Term→List Term→Bool×Int) (a:List Weighted) (b:List Weighted):Bool×Int:=(zvB zN a b).fin default
theorem zBW (zN:List Term→List Term→Bool×Int) (zuF:Sound Tryz.prog base 39 (zjE zN)):Sound Tryz.prog base 35 (zjj (zmh zN)):=
 zn (cx':=(zt4 zN)) zJ zl zw (zm ⟨zuF,ziH,zyx,trivial⟩) Tryz.call35 Tryz.func35 (c:=body Tryz.f35) (by kernel_rfl) (zh (l:=[lp (body Tryz.f35) 0]) (by kernel_rfl) ⟨zEh zN,trivial⟩) (sg:=⟨[.pure],[]⟩) (A:=zxg) (res:=zvx) (W:=fun x=>zvB zN x.1 x.2.1) (z:=default)
def zjq:Nat→(List Term→List Term→Bool×Int)×(List Factor→List Factor→Bool×Int)×(Atom→Atom→Bool×Int)×(List Weighted→List Weighted→Bool×Int)
 | 0=>(fun _ _=>(false,default),fun _ _=>(false,default),fun _ _=>(false,default),fun _ _=>(false,default))
 | n+1=>(zrL ((zjq n).2.1),zij ((zjq n).2.2.1),zkh ((zjq n).2.2.2) ((zjq n).1),zmh ((zjq n).1))
def zls (n:Nat):List Term→List Term→Bool×Int:=(zjq n).1
def zim (n:Nat):List Factor→List Factor→Bool×Int:=(zjq n).2.1
def zkn (n:Nat):Atom→Atom→Bool×Int:=(zjq n).2.2.1
def zjk (n:Nat):List Weighted→List Weighted→Bool×Int:=(zjq n).2.2.2
theorem zLs (n:Nat):zls (n+1)=zrL (zim n):=rfl
theorem zDn (n:Nat):zim (n+1)=zij (zkn n):=rfl
theorem zGD (n:Nat):zkn (n+1)=zkh (zjk n) (zls n):=rfl
theorem zFu (n:Nat):zjk (n+1)=zmh (zls n):=rfl
theorem zpu:∀ n,Sound Tryz.prog base 39 (zjE (zls n))∧Sound Tryz.prog base 89 (zif (zim n))∧Sound Tryz.prog base 104 (zkl (zkn n))∧Sound Tryz.prog base 35 (zjj (zjk n))
 | 0=>⟨zbj Tryz.call39 (fun _=>rfl),zbj Tryz.call89 (fun _=>rfl),zbj Tryz.call104 (fun _=>rfl),zbj Tryz.call35 (fun _=>rfl)⟩
 | n+1=>by
  have ih:=zpu n
  exact ⟨zHL _ (ih.2.1),zzj _ (ih.2.2.1),zC8 _ _ (ih.2.2.2) (ih.1),zBW _ (ih.1)⟩
def zB5:List Term→List Term→Bool×Int:=zls 1000
def ref05_Compare_spec:Ab.Spec ty:=zjE zB5
theorem zKY:Sound Tryz.prog base 39 ref05_Compare_spec:=(zpu 1000).1
def zju:List Factor→List Factor→Bool×Int:=zim 1000
def ref05_CompareFactors_spec:Ab.Spec ty:=zif zju
theorem zq6:Sound Tryz.prog base 89 ref05_CompareFactors_spec:=(zpu 1000).2.1
def zjQ:Atom→Atom→Bool×Int:=zkn 1000
def ref05_CompareAtom_spec:Ab.Spec ty:=zkl zjQ
theorem ztU:Sound Tryz.prog base 104 ref05_CompareAtom_spec:=(zpu 1000).2.2.1
def zn6:List Weighted→List Weighted→Bool×Int:=zjk 1000
def ref05_CompareItems_spec:Ab.Spec ty:=zjj zn6
theorem zsV:Sound Tryz.prog base 35 ref05_CompareItems_spec:=(zpu 1000).2.2.2
def zRV:Cx ty:=mkCx base 9 [(39,ref05_Compare_spec)] [] [] [] [] []
def zEB (a:List Term) (b:List Term):Wy0 (Bool):=.bn (zB5 a b) fun r0=>.k (r0==0)
def zog (a:List Term) (b:List Term):Bool×Bool:=(zEB a b).fin default
def zIw (r:Bool):ARes ty:=⟨[.pure (.lit (.bool r))],[]⟩
def zLX:AL base (List Term×List Term×Unit):=zf (zg (vSl 42)) (zf (zg (vSl 42)) aNil)
def zsg:Ab.Spec ty:=zk zLX fun x=>((zog x.1 x.2.1).1,zIw (zog x.1 x.2.1).2)
theorem zvL:Sound Tryz.prog base 24 zsg:=
 zn (cx':=zRV) zJ zl zw (zm ⟨zKY,trivial⟩) Tryz.call24 Tryz.func24 (c:=body Tryz.f24) (by kernel_rfl) (zh (l:=[]) (by kernel_rfl) trivial) (sg:=⟨[.pure],[]⟩) (A:=zLX) (res:=zIw) (W:=fun x=>zEB x.1 x.2.1) (z:=default)
end Go.Proofs.YtnolcogncjijpaaGreatDoor
end
