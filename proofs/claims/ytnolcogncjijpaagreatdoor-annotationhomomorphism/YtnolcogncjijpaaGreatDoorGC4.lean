/- Texts of this claim, joined (the program, its functions in plain words, and what they compute). -/
import Derived.WalkKit
import Derived.WalkSpells
import Derived.Test.YtnolcogncjijpaaGreatDoorGC1
import Derived.Test.YtnolcogncjijpaaGreatDoorGA2
import Derived.Test.YtnolcogncjijpaaGreatDoorGC3
import Derived.Test.YtnolcogncjijpaaGreatDoorGC2
import Derived.Test.YtnolcogncjijpaaGreatDoorGB1
import Derived.Test.YtnolcogncjijpaaGreatDoorGA3
set_option autoImplicit false
set_option linter.unusedVariables false
set_option linter.unusedSectionVars false
set_option linter.unusedSimpArgs false
set_option maxRecDepth 1000000
set_option maxHeartbeats 0
noncomputable section
namespace Go.Proofs.YtnolcogncjijpaaGreatDoor
open Go Go.Ab
abbrev ttTslicesIndexFuncLapiBindingapiBindings20:=List Binding×(RowID×Unit)×Int×Int×Unit
def znx (s:List Binding) (f:RowID) (t7:Int) (t8:Int):Wy ttTslicesIndexFuncLapiBindingapiBindings20 (Unit) (Int⊕Unit):=.i (decide (t8<t7)) (.i (decide (0≤t8)&&decide (t8<Int.ofNat s.length)) (.i ((ze9 (s.getD t8.toNat default) f).2) (.k (.inl t8)) (.h (s,(f,()),t7,(IntKind.i64.wrap (t8+1)),()) ())) .d) (.k (.inr ()))
def zef (x:ttTslicesIndexFuncLapiBindingapiBindings20) (y:Unit):Wy ttTslicesIndexFuncLapiBindingapiBindings20 (Unit) (Int⊕Unit):=znx x.1 x.2.1.1 x.2.2.1 x.2.2.2.1
def znt (n:Nat) (s:List Binding) (f:RowID) (t7:Int) (t8:Int):Bool×(Int⊕Unit):=zQ (zef) (.inl default) n (s,(f,()),t7,t8,()) ()
def zgN (r:Int⊕Unit):LTree ty:=.ite (isL r) (.done .ret [.lit (.int .i64 (getL r))] []) (.done (.exit 0) [] [])
def zhp:LL ty ttTslicesIndexFuncLapiBindingapiBindings20:=zb (lSl 69) (zb (lFn 95 (zb (zy3 (zuG (fun x=>(⟨x.1,x.2.1⟩:RowID)) (fun x=>(x.Table,x.Seq,())) (fun _=>rfl) (zb (lInt .i64) (zb (lInt .i64) zX))) 0) zX)) (zb (lInt .i64) (zb (lInt .i64) zX)))
def zho:BL ty (Unit):=bNil
def zg9 (x:ttTslicesIndexFuncLapiBindingapiBindings20) (y:Unit):Nat:=(x.1.length+Int.toNat x.2.2.1+Int.toNat x.2.2.2.1+1)
def zhr:Cx ty:=mkCx base 19 [(95,ziF)] [] [(2,[(0,.keep),(1,.keep),(7,.keep),(8,.keep)])] [(2,1,[]),(2,0,[(4,.keep)])] [(2,spW zhp zho (zef) (.inl default) zgN zg9)] []
theorem znb:zbv zhr (lp (body Tryz.f94) 0):=zbc (id:=2) (V:=zhp) (B:=zho) (W:=zef) (z:=.inl default) (tr:=zgN) (m:=zg9)
def zhY (s:List Binding) (f:RowID):Wy0 (Int):=.bn (znt (s.length+(Int.ofNat s.length).toNat +Int.toNat 0+1) s f (Int.ofNat s.length) 0) fun r0=>.i (isL r0) (.k (getL r0)) (.k (-1:Int))
def zb7 (s:List Binding) (f:RowID):Bool×Int:=(zhY s f).fin default
def zha (r:Int):ARes ty:=⟨[.pure (.lit (.int .i64 r))],[]⟩
def zhN:AL base (List Binding×(RowID×Unit)×Unit):=zf (zg (vSl 69)) (zf (zg (vFn 95 (zs8 (zLt 25) vNil))) aNil)
def zgv:Ab.Spec ty:=zu zhN fun x=>((zb7 x.1 x.2.1.1).1,zha (zb7 x.1 x.2.1.1).2)
theorem zmn:Sound Tryz.prog base 94 zgv:=
 zH (cx':=zhr) zT zD zN (zG ⟨zmD,trivial⟩) Tryz.call94 Tryz.func94 (c:=body Tryz.f94) (by kernel_rfl) (zj (l:=[lp (body Tryz.f94) 0]) (by kernel_rfl) ⟨znb,trivial⟩) (sg:=⟨[.pure],[]⟩) (A:=zhN) (res:=zha) (W:=fun x=>zhY x.1 x.2.1.1) (z:=default)
def zyW:Cx ty:=mkCx base 18 [(27,zrj),(61,annotation_copied_spec),(94,zgv),(95,ziF)] [] [] [] [] []
def zlN (id:RowID) (p1:List Binding):Wy0 (List Term):=.bn (zb7 p1 id) fun r2=>.i (decide (r2≥0)) (.i (decide (0≤r2)&&decide (r2<Int.ofNat p1.length)) (.bn (zfR (p1.getD r2.toNat default).To) fun r0=>.k r0) .d) (.bn (zpb id) fun r1=>.k r1)
def zg6 (id:RowID) (p1:List Binding):Bool×List Term:=(zlN id p1).fin default
def zpf (r:List Term):ARes ty:=⟨[.own 42 r],[]⟩
def zqO:AL base (RowID×(List Binding×Unit)×Unit):=zf (zg (vAgg 25)) (zf (zg (vBox (zs8 (vSl 69) vNil))) aNil)
def zgH:Ab.Spec ty:=zu zqO fun x=>((zg6 x.1 x.2.1.1).1,zpf (zg6 x.1 x.2.1.1).2)
theorem zjw:Sound Tryz.prog base 93 zgH:=
 zH (cx':=zyW) zT zD zN (zG ⟨zwG,zhR,zmn,zmD,trivial⟩) Tryz.call93 Tryz.func93 (c:=body Tryz.f93) (by kernel_rfl) (zj (l:=[]) (by kernel_rfl) trivial) (sg:=⟨[.own 42],[]⟩) (A:=zqO) (res:=zpf) (W:=fun x=>zlN x.1 x.2.1.1) (z:=default)
abbrev ttTannotationreplace0:=((List Binding×Unit)×Unit)×Unit×Unit×List Term×Int×List Term×Int×Int×List Factor×Int×Int×Int×Int×Unit
abbrev ttTannotationreplace1:=List Term×List Term×Unit
abbrev ttTannotationreplace2:=List Binding×Int×List Term×Int×Int×List Factor×Int×Int×List Term×List Term
abbrev ttTannotationreplace3:=((List Binding×Unit)×Unit)×Unit×Unit×List Term×Int×Int×List Factor×Int×Int×Unit
abbrev ttTannotationreplace4:=Int⊕(List Binding×List Term×Int×Int×List Term×List Term)
abbrev ttTannotationreplace5:=((List Binding×Unit)×Unit)×Unit×List Term×Int×Int×Unit
abbrev ttTannotationreplace6:=List Term×Unit
abbrev ttTannotationreplace7:=Int⊕List Term
def zm7 (zi:Atom→List Binding→Bool×(List Term×Int)) (to:List Binding) (b:List Term) (e:Int) (t16:List Term) (t17:Int) (t18:Int) (t26:List Factor) (t27:Int) (t28:Int) (t40:Int) (t41:Int) (sum:List Term) (product:List Term):Wy ttTannotationreplace0 ttTannotationreplace1 ttTannotationreplace2:=.i (decide (t41<t40)) (.i (e==0) (.bn (zmN product b) fun r6=>.h (((to,()),()),(),(),b,(r6.2),t16,t17,t18,t26,t27,t28,t40,(IntKind.i64.wrap (t41+1)),()) (sum,(r6.1),())) (.h (((to,()),()),(),(),b,e,t16,t17,t18,t26,t27,t28,t40,(IntKind.i64.wrap (t41+1)),()) (sum,product,()))) (.k (to,e,t16,t17,t18,t26,t27,t28,sum,product))
def zne (zi:Atom→List Binding→Bool×(List Term×Int)) (x:ttTannotationreplace0) (y:ttTannotationreplace1):Wy ttTannotationreplace0 ttTannotationreplace1 ttTannotationreplace2:=zm7 zi x.1.1.1 x.2.2.2.1 x.2.2.2.2.1 x.2.2.2.2.2.1 x.2.2.2.2.2.2.1 x.2.2.2.2.2.2.2.1 x.2.2.2.2.2.2.2.2.1 x.2.2.2.2.2.2.2.2.2.1 x.2.2.2.2.2.2.2.2.2.2.1 x.2.2.2.2.2.2.2.2.2.2.2.1 x.2.2.2.2.2.2.2.2.2.2.2.2.1 y.1 y.2.1
def znh (zi:Atom→List Binding→Bool×(List Term×Int)) (n:Nat) (to:List Binding) (b:List Term) (e:Int) (t16:List Term) (t17:Int) (t18:Int) (t26:List Factor) (t27:Int) (t28:Int) (t40:Int) (t41:Int) (sum:List Term) (product:List Term):Bool×ttTannotationreplace2:=zQ (zne zi) default n (((to,()),()),(),(),b,e,t16,t17,t18,t26,t27,t28,t40,t41,()) (sum,product,())
def zrL (r:ttTannotationreplace2):LTree ty:=.done (.exit 4) [.fn 93 ([.bptr ([.sl 69 r.1]) 0]),.own 272,.own 273,.lit (.int .i64 r.2.1),.sl 42 r.2.2.1,.lit (.int .i64 r.2.2.2.1),.lit (.int .i64 r.2.2.2.2.1),.sl 50 r.2.2.2.2.2.1,.lit (.int .i64 r.2.2.2.2.2.2.1),.lit (.int .i64 r.2.2.2.2.2.2.2.1)] [.arr 42 r.2.2.2.2.2.2.2.2.1 false,.arr 42 r.2.2.2.2.2.2.2.2.2 false]
def zsK:LL ty ttTannotationreplace0:=zb (lFn 93 (zb (zy3 (zb (lSl 69) zX) 0) zX)) (zb (lOwn 272) (zb (lOwn 273) (zb (lSl 42) (zb (lInt .i64) (zb (lSl 42) (zb (lInt .i64) (zb (lInt .i64) (zb (lSl 50) (zb (lInt .i64) (zb (lInt .i64) (zb (lInt .i64) (zb (lInt .i64) zX))))))))))))
def zsD:BL ty ttTannotationreplace1:=bArr 42 false (bArr 42 false (bNil))
def znK (zi:Atom→List Binding→Bool×(List Term×Int)) (to:List Binding) (t16:List Term) (t17:Int) (t18:Int) (t26:List Factor) (t27:Int) (t28:Int) (sum:List Term) (product:List Term):Wy ttTannotationreplace3 ttTannotationreplace1 ttTannotationreplace4:=.i (decide (t28<t27)) (.i (decide (0≤t28)&&decide (t28<Int.ofNat t26.length)) (.bn (zi (Atom.mk (t26.getD t28.toNat default).Atom.Kind (t26.getD t28.toNat default).Atom.Row (t26.getD t28.toNat default).Atom.Args (t26.getD t28.toNat default).Atom.Func (t26.getD t28.toNat default).Atom.Items (t26.getD t28.toNat default).Atom.Op (t26.getD t28.toNat default).Atom.Bound) to) fun r9=>.bn (znh zi (to.length+r9.1.length+r9.2.toNat +t16.length+t17.toNat +t18.toNat +t26.length+t27.toNat +t28.toNat +(t26.getD t28.toNat default).Exp.toNat +Int.toNat 0+sum.length+product.length+1) to r9.1 r9.2 t16 t17 t18 t26 t27 t28 (t26.getD t28.toNat default).Exp 0 sum product) fun r8=>.i (r8.2.1 != 0) (.k (.inl (r8.2.1))) (.h ((((r8.1),()),()),(),(),(r8.2.2.1),(r8.2.2.2.1),(r8.2.2.2.2.1),(r8.2.2.2.2.2.1),(r8.2.2.2.2.2.2.1),(IntKind.i64.wrap (r8.2.2.2.2.2.2.2.1+1)),()) ((r8.2.2.2.2.2.2.2.2.1),(r8.2.2.2.2.2.2.2.2.2),()))) .d) (.k (.inr (to,t16,t17,t18,sum,product)))
def znF (zi:Atom→List Binding→Bool×(List Term×Int)) (x:ttTannotationreplace3) (y:ttTannotationreplace1):Wy ttTannotationreplace3 ttTannotationreplace1 ttTannotationreplace4:=znK zi x.1.1.1 x.2.2.2.1 x.2.2.2.2.1 x.2.2.2.2.2.1 x.2.2.2.2.2.2.1 x.2.2.2.2.2.2.2.1 x.2.2.2.2.2.2.2.2.1 y.1 y.2.1
def znC (zi:Atom→List Binding→Bool×(List Term×Int)) (n:Nat) (to:List Binding) (t16:List Term) (t17:Int) (t18:Int) (t26:List Factor) (t27:Int) (t28:Int) (sum:List Term) (product:List Term):Bool×ttTannotationreplace4:=zQ (znF zi) (.inl default) n (((to,()),()),(),(),t16,t17,t18,t26,t27,t28,()) (sum,product,())
def zsQ (r:ttTannotationreplace4):LTree ty:=.ite (isL r) (.done .ret [.lit (.slice none 0 0),.lit (.int .i64 (getL r))] []) (.done (.exit 2) [.fn 93 ([.bptr ([.sl 69 (getR r).1]) 0]),.own 272,.own 273,.sl 42 (getR r).2.1,.lit (.int .i64 (getR r).2.2.1),.lit (.int .i64 (getR r).2.2.2.1)] [.arr 42 (getR r).2.2.2.2.1 false,.arr 42 (getR r).2.2.2.2.2 false])
def ztk:LL ty ttTannotationreplace3:=zb (lFn 93 (zb (zy3 (zb (lSl 69) zX) 0) zX)) (zb (lOwn 272) (zb (lOwn 273) (zb (lSl 42) (zb (lInt .i64) (zb (lInt .i64) (zb (lSl 50) (zb (lInt .i64) (zb (lInt .i64) zX))))))))
def ztr:BL ty ttTannotationreplace1:=bArr 42 false (bArr 42 false (bNil))
def znE (zi:Atom→List Binding→Bool×(List Term×Int)) (to:List Binding) (t16:List Term) (t17:Int) (t18:Int) (sum:List Term):Wy ttTannotationreplace5 ttTannotationreplace6 ttTannotationreplace7:=.i (decide (t18<t17)) (.i (decide (0≤t18)&&decide (t18<Int.ofNat t16.length)) (.bn (zm4 (t16.getD t18.toNat default).Coeff) fun r14=>.bn (znC zi (to.length+t16.length+t17.toNat +t18.toNat +(t16.getD t18.toNat default).Factors.length+(Int.ofNat (t16.getD t18.toNat default).Factors.length).toNat +Int.toNat 0+sum.length+r14.length+1) to t16 t17 t18 (t16.getD t18.toNat default).Factors (Int.ofNat (t16.getD t18.toNat default).Factors.length) 0 sum r14) fun r13=>.i (isL r13) (.k (.inl (getL r13))) (.bn (zmH (getR r13).2.2.2.2.1 (getR r13).2.2.2.2.2) fun r12=>.i (r12.2 != 0) (.k (.inl (r12.2))) (.h ((((getR r13).1,()),()),(),(getR r13).2.1,(getR r13).2.2.1,(IntKind.i64.wrap ((getR r13).2.2.2.1+1)),()) ((r12.1),())))) .d) (.k (.inr sum))
def znN (zi:Atom→List Binding→Bool×(List Term×Int)) (x:ttTannotationreplace5) (y:ttTannotationreplace6):Wy ttTannotationreplace5 ttTannotationreplace6 ttTannotationreplace7:=znE zi x.1.1.1 x.2.2.1 x.2.2.2.1 x.2.2.2.2.1 y.1
def znS (zi:Atom→List Binding→Bool×(List Term×Int)) (n:Nat) (to:List Binding) (t16:List Term) (t17:Int) (t18:Int) (sum:List Term):Bool×ttTannotationreplace7:=zQ (znN zi) (.inl default) n (((to,()),()),(),t16,t17,t18,()) (sum,())
def zr8 (r:ttTannotationreplace7):LTree ty:=.ite (isL r) (.done .ret [.lit (.slice none 0 0),.lit (.int .i64 (getL r))] []) (.done (.exit 0) [.own 272] [.arr 42 (getR r) false])
def ztD:LL ty ttTannotationreplace5:=zb (lFn 93 (zb (zy3 (zb (lSl 69) zX) 0) zX)) (zb (lOwn 272) (zb (lSl 42) (zb (lInt .i64) (zb (lInt .i64) zX))))
def ztB:BL ty ttTannotationreplace6:=bArr 42 false (bNil)
def zrs (x:ttTannotationreplace0) (y:ttTannotationreplace1):Nat:=(x.1.1.1.length+x.2.2.2.1.length+Int.toNat x.2.2.2.2.1+x.2.2.2.2.2.1.length+Int.toNat x.2.2.2.2.2.2.1+Int.toNat x.2.2.2.2.2.2.2.1+x.2.2.2.2.2.2.2.2.1.length+Int.toNat x.2.2.2.2.2.2.2.2.2.1+Int.toNat x.2.2.2.2.2.2.2.2.2.2.1+Int.toNat x.2.2.2.2.2.2.2.2.2.2.2.1+Int.toNat x.2.2.2.2.2.2.2.2.2.2.2.2.1+y.1.length+y.2.1.length+1)
def zrR (x:ttTannotationreplace3) (y:ttTannotationreplace1):Nat:=(x.1.1.1.length+x.2.2.2.1.length+Int.toNat x.2.2.2.2.1+Int.toNat x.2.2.2.2.2.1+x.2.2.2.2.2.2.1.length+Int.toNat x.2.2.2.2.2.2.2.1+Int.toNat x.2.2.2.2.2.2.2.2.1+y.1.length+y.2.1.length+1)
def zsv (x:ttTannotationreplace5) (y:ttTannotationreplace6):Nat:=(x.1.1.1.length+x.2.2.1.length+Int.toNat x.2.2.2.1+Int.toNat x.2.2.2.2.1+y.1.length+1)
def zj9 (zi:Atom→List Binding→Bool×(List Term×Int)):Cx ty:=mkCx base0 68 [(13,znl),(16,znq),(25,zpi),(93,zgH),(140,(zje zi))] [] [(3,[(1,.keep),(6,.own 42),(16,.keep),(17,.keep),(18,.keep)]),(7,[(1,.keep),(6,.keep),(9,.keep),(16,.keep),(17,.keep),(18,.keep),(26,.keep),(27,.keep),(28,.keep)]),(11,[(1,.keep),(6,.keep),(9,.keep),(12,.sl 42),(13,.keep),(16,.keep),(17,.keep),(18,.keep),(26,.keep),(27,.keep),(28,.keep),(40,.keep),(41,.keep)])] [(3,1,[(6,.keep)]),(3,0,[(4,.keep),(5,.keep)]),(7,3,[(1,.keep),(6,.keep),(9,.keep),(16,.keep),(17,.keep),(18,.keep)]),(7,0,[(4,.keep),(5,.keep)]),(11,5,[(1,.keep),(6,.keep),(9,.keep),(13,.keep),(16,.keep),(17,.keep),(18,.keep),(26,.keep),(27,.keep),(28,.keep)])] [(11,spW zsK zsD (zne zi) default zrL zrs),(7,spW ztk ztr (znF zi) (.inl default) zsQ zrR),(3,spW ztD ztB (znN zi) (.inl default) zr8 zsv)] []
theorem zA3 (zi:Atom→List Binding→Bool×(List Term×Int)):zbv (zj9 zi) (lp (body Tryz.f92) 2):=zbc (id:=11) (V:=zsK) (B:=zsD) (W:=zne zi) (z:=default) (tr:=zrL) (m:=zrs)
theorem zBN (zi:Atom→List Binding→Bool×(List Term×Int)):zbv (zj9 zi) (lp (body Tryz.f92) 1):=zbc (id:=7) (V:=ztk) (B:=ztr) (W:=znF zi) (z:=.inl default) (tr:=zsQ) (m:=zrR)
theorem zCs (zi:Atom→List Binding→Bool×(List Term×Int)):zbv (zj9 zi) (lp (body Tryz.f92) 0):=zbc (id:=3) (V:=ztD) (B:=ztB) (W:=znN zi) (z:=.inl default) (tr:=zr8) (m:=zsv)
def zoq (zi:Atom→List Binding→Bool×(List Term×Int)) (a:List Term) (to:List Binding):Wy0 (List Term×Int):=.bn (znS zi (to.length+a.length+(Int.ofNat a.length).toNat +Int.toNat 0+0+1) to a (Int.ofNat a.length) 0 []) fun r18=>.i (isL r18) (.k ([],getL r18)) (.k (getR r18,0))
def zjn (zi:Atom→List Binding→Bool×(List Term×Int)) (a:List Term) (to:List Binding):Bool×(List Term×Int):=(zoq zi a to).fin default
theorem zzO (zi:Atom→List Binding→Bool×(List Term×Int)) (zzV:Sound Tryz.prog base0 140 (zje zi)):Sound Tryz.prog base0 92 (zjA (zjn zi)):=
 zH (cx':=(zj9 zi)) zT zh3 zN (zG ⟨zql,zqf,zuh.nodr,zjw.nodr,zzV,trivial⟩) Tryz.call92 Tryz.func92 (c:=body Tryz.f92) (by kernel_rfl) (zj (l:=[lp (body Tryz.f92) 0,lp (body Tryz.f92) 1,lp (body Tryz.f92) 2]) (by kernel_rfl) ⟨zCs zi,zBN zi,zA3 zi,trivial⟩) (sg:=⟨[.own 42,.pure],[]⟩) (A:=zwe) (res:=zub) (W:=fun x=>zoq zi x.1 x.2.1.1.1) (z:=default)
def zJc:Cx ty:=mkCx base 3 [] [] [] [] [] []
def zBl:Wy0 (List Term):=.k [TermOf.mk 1 []]
def zo7:Bool×List Term:=(zBl).fin default
def zze (r:List Term):ARes ty:=⟨[.own 42 r],[]⟩
def zBY:AL base (Unit):=aNil
def znp:Ab.Spec ty:=zu zBY fun x=>((zo7 ).1,zze (zo7 ).2)
theorem zqp:Sound Tryz.prog base 29 znp:=
 zH (cx':=zJc) zT zD zN (zG trivial) Tryz.call29 Tryz.func29 (c:=body Tryz.f29) (by kernel_rfl) (zj (l:=[]) (by kernel_rfl) trivial) (sg:=⟨[.own 42],[]⟩) (A:=zBY) (res:=zze) (W:=fun x=>zBl ) (z:=default)
def zFz:Cx ty:=mkCx base 23 [(29,znp),(31,annotation_Valid_spec),(53,zem),(62,zfA),(68,zle)] [] [] [] [] []
def zrk (a:List Term):Wy0 (List Term×Int):=.bn (zbP a) fun r2=>.i (!r2) (.k ([],1)) (.i (Int.ofNat a.length==0) (.k (zo7.2,0)) (.bn (zet a) fun r1=>.i (r1) (.k ([],0)) (.bn (zdQ (zeK (Atom.mk 3 (RowID.mk 0 0) [a] 0 [] 0 (Value.mk 0 0 (ByteArray.mk #[])))).2) fun r0=>.k (r0.1,r0.2))))
def zjJ (a:List Term):Bool×(List Term×Int):=(zrk a).fin default
def zvL (r:List Term×Int):ARes ty:=⟨[.own 42 r.1,.pure (.lit (.int .i64 r.2))],[]⟩
def zxr:AL base (List Term×Unit):=zf (zg (vSl 42)) aNil
def zon:Ab.Spec ty:=zu zxr fun x=>((zjJ x.1).1,zvL (zjJ x.1).2)
theorem zts:Sound Tryz.prog base 22 zon:=
 zH (cx':=zFz) zT zD zN (zG ⟨zqp,zcx,zeS,zhT,zo0,trivial⟩) Tryz.call22 Tryz.func22 (c:=body Tryz.f22) (by kernel_rfl) (zj (l:=[]) (by kernel_rfl) trivial) (sg:=⟨[.own 42,.pure],[]⟩) (A:=zxr) (res:=zvL) (W:=fun x=>zrk x.1) (z:=default)
def zG1:Cx ty:=mkCx base 29 [(29,znp),(31,annotation_Valid_spec),(53,zem),(61,annotation_copied_spec),(62,zfA),(64,zoF),(65,zlO)] [] [] [] [] []
def zsh (a:List Term):Wy0 (List Term×Int):=.bn (zbP a) fun r5=>.i (!r5) (.k ([],1)) (.i (Int.ofNat a.length==0) (.bn (zfR a) fun r0=>.k (r0,0)) (.bn (zjM a) fun r4=>.i (r4) (.bn (zfR a) fun r1=>.k (r1,0)) (.bn (zgF a) fun r3=>.i (r3) (.k (zo7.2,0)) (.bn (zdQ (zeK (Atom.mk 2 (RowID.mk 0 0) [a] 0 [] 0 (Value.mk 0 0 (ByteArray.mk #[])))).2) fun r2=>.k (r2.1,r2.2)))))
def zku (a:List Term):Bool×(List Term×Int):=(zsh a).fin default
def zwE (r:List Term×Int):ARes ty:=⟨[.own 42 r.1,.pure (.lit (.int .i64 r.2))],[]⟩
def zyy:AL base (List Term×Unit):=zf (zg (vSl 42)) aNil
def zlj:Ab.Spec ty:=zu zyy fun x=>((zku x.1).1,zwE (zku x.1).2)
theorem zoG:Sound Tryz.prog base 20 zlj:=
 zH (cx':=zG1) zT zD zN (zG ⟨zqp,zcx,zeS,zhR,zhT,ztq,zpN,trivial⟩) Tryz.call20 Tryz.func20 (c:=body Tryz.f20) (by kernel_rfl) (zj (l:=[]) (by kernel_rfl) trivial) (sg:=⟨[.own 42,.pure],[]⟩) (A:=zyy) (res:=zwE) (W:=fun x=>zsh x.1) (z:=default)
def zGQ:Cx ty:=mkCx base 38 [(31,annotation_Valid_spec),(32,zlt),(53,zem),(61,annotation_copied_spec),(62,zfA)] [] [] [] [] []
def zse (a:List Term) (b:List Term):Wy0 (List Term×Int):=.bn (zbP a) fun r4=>.i (!r4) (.k ([],1)) (.bn (zbP b) fun r3=>.i (!r3) (.k ([],1)) (.i (Int.ofNat b.length==0) (.bn (zfR a) fun r0=>.k (r0,0)) (.i (Int.ofNat a.length==0) (.k ([],0)) (.bn (zes a b) fun r2=>.i (r2) (.k ([],0)) (.bn (zdQ (zeK (Atom.mk 1 (RowID.mk 0 0) [a,b] 0 [] 0 (Value.mk 0 0 (ByteArray.mk #[])))).2) fun r1=>.k (r1.1,r1.2))))))
def zkn (a:List Term) (b:List Term):Bool×(List Term×Int):=(zse a b).fin default
def zv4 (r:List Term×Int):ARes ty:=⟨[.own 42 r.1,.pure (.lit (.int .i64 r.2))],[]⟩
def zzh:AL base (List Term×List Term×Unit):=zf (zg (vSl 42)) (zf (zg (vSl 42)) aNil)
def zlx:Ab.Spec ty:=zu zzh fun x=>((zkn x.1 x.2.1).1,zv4 (zkn x.1 x.2.1).2)
theorem zoD:Sound Tryz.prog base 18 zlx:=
 zH (cx':=zGQ) zT zD zN (zG ⟨zcx,zoo,zeS,zhR,zhT,trivial⟩) Tryz.call18 Tryz.func18 (c:=body Tryz.f18) (by kernel_rfl) (zj (l:=[]) (by kernel_rfl) trivial) (sg:=⟨[.own 42,.pure],[]⟩) (A:=zzh) (res:=zv4) (W:=fun x=>zse x.1 x.2.1) (z:=default)
def zfd (x:List Weighted) (a b:Int):Bool×List Weighted:=zMp zZ x a b
def slices_insertionSortCmpFunc_api_Weighted_spec:Ab.Spec ty:=zu (cx:=base) (zf (aOwn 52) (zf (zg (vInt .i64)) (zf (zg (vInt .i64)) (zf (zg (vFn 85 vNil)) aNil)))) fun x=>((zfd x.1 x.2.1 x.2.2.1).1,⟨[],[some ⟨52,(zfd x.1 x.2.1 x.2.2.1).2⟩]⟩)
theorem zow (c:Unit) (x y:Weighted) (h:(zZ x y).1=true):annotation_compareItems_spec ((AV.agg (base.enc 52 x)::AV.agg (base.enc 52 y)::(vNil:VL base Unit).enc c).map Arg.pure)=some (true,⟨[.pure (.lit (.int .i64 (zZ x y).2))],[]⟩):=by
 rw [← h]; kernel_rfl
theorem znU:Sound Tryz.prog base 164 slices_insertionSortCmpFunc_api_Weighted_spec:=by
 letI:DecidableEq (ty 52):=inferInstanceAs (DecidableEq Weighted)
 exact zQ4 (T:=52) zD rfl Go.Proofs.Tryz.insW Tryz.isAgg52 (by unfold szOf; exact Tryz.sizeOf52) Tryz.call164 zgJ vNil (fun c=>zZ) zow
open Go.Proofs Go.RowKit
def zb8 (x:List Weighted) (m:Int):Bool×List Weighted:=(decide (SortOK zZ x)&&(decide (m=x.length)&&decide (m<20)),zmg zZ x)
def zkf:Ab.Spec ty:=zu (cx:=base) (zf (aOwn 52) (zf (zg (vInt .i64)) (zf (zg (vFn 85 vNil)) aNil))) fun x=>((zb8 x.1 x.2.1).1,⟨[],[some ⟨52,(zb8 x.1 x.2.1).2⟩]⟩)
set_option maxHeartbeats 1000000 in
theorem zqP:Sound Tryz.prog base 139 zkf where
 enters:=Tryz.call139
 calls:=fun avs r hsp w F vs hF ha hsep=>by
  unfold zkf zu at hsp
  split at hsp
  ·rename_i x hx
   simp only [Option.some.injEq,Prod.mk.injEq] at hsp
   obtain ⟨hpre,rfl⟩:=hsp
   have hk:=(zf (aOwn 52) (zf (zg (vInt .i64)) (zf (zg (vFn 85 vNil)) aNil)):AL base _).kind vs avs x hx
   have ha':=(zf (aOwn 52) (zf (zg (vInt .i64)) (zf (zg (vFn 85 vNil)) aNil)):AL base _).ok Tryz.prog zD F w vs avs x hx ha
   rw [hk] at hsep ⊢
   clear hk hx ha
   obtain ⟨l0,m,c,u0⟩:=x
   obtain ⟨l,rfl⟩:∃ l:List Weighted,l=l0:=⟨l0,rfl⟩
   obtain ⟨v,vs',rfl,hv,hv'⟩:=ha'.inv
   obtain ⟨mv,vs1,rfl,hm,hv1⟩:=hv'.inv
   obtain ⟨fv,vs'',rfl,hfv,h0⟩:=hv1.inv
   obtain rfl:=h0.nil_left.1
   have hm:Rep base F w mv (.lit (.int .i64 m)):=hm
   obtain rfl:mv=.int .i64 m:=by cases hm; rfl
   have hsl:∃ p cap,v=.slice p l.length cap:=by
    obtain ⟨⟨xs,hown,_⟩,_⟩:=(show zc0 base F w v 52 l∧∀ b,z6 v=some b→¬ F b from hv)
    rcases hown.2 with ⟨h1,h2⟩ | ⟨g0,cap,cur,h1,_⟩
    ·exact ⟨none,0,by rw [h1,show l.length=0 from h2]⟩
    ·exact ⟨_,cap,h1⟩
   have hpre:(decide (SortOK (α:=Weighted) zZ l)&&(decide (m=l.length)&&decide (m<20)))=true:=hpre
   simp only [Bool.and_eq_true,decide_eq_true_eq] at hpre
   obtain ⟨hok,rfl,h20⟩:=hpre
   have hpp:(zfd l 0 (l.length:Int)).1=true:=by
    show (decide (SortOK (α:=Weighted) zZ l)&&(decide ((0:Int)=0)&&decide ((l.length:Int)=l.length)))=true
    simp only [Bool.and_eq_true,decide_eq_true_eq]
    exact ⟨hok,trivial,trivial⟩
   have hp:=(znU).calls [.own 52 l,.pure (.lit (.int .i64 0)),.pure (.lit (.int .i64 (l.length:Int))),.pure (.fn 85 [])] ⟨[],[some ⟨52,(zb8 l (l.length:Int)).2⟩]⟩
    (by rw [← hpp]; kernel_rfl) w F [v,.int .i64 0,.int .i64 (l.length:Int),fv] hF (.cons hv (.cons (Rep.lit _) (.cons (Rep.lit _) (.cons hfv .nil)))) hsep
   replace hp:Calls Tryz.prog 164 #[v,.int .i64 0,.int .i64 (l.length:Int),fv] w fun e w'=>∃ u,e=.returned u∧Post base F w [v] ⟨[],[some ⟨52,(zb8 l (l.length:Int)).2⟩]⟩ u w':=hp
   show Calls Tryz.prog 139 #[v,.int .i64 (l.length:Int),fv] w fun e w'=>∃ u,e=.returned u∧Post base F w [v] ⟨[],[some ⟨52,(zb8 l (l.length:Int)).2⟩]⟩ u w'
   generalize (zb8 l (l.length:Int)).2=res at hp ⊢
   generalize hn:l.length=m at *
   clear hpp hv hfv hsep hok hF hm
   obtain ⟨p,cap,rfl⟩:=hsl
   clear hn
   go_enter Tryz.func139,Tryz.ntmps139
   go_wp2
   refine wp_loop_rounds 1 ?_
   rw [rounds_succ]
   go_wp2_with (go_at_call 164; refine hp.mono ?_; rintro e w' ⟨u,rfl,hpost⟩; obtain rfl:=hpost.unit)
   refine wp_loop_rounds 1 ?_
   rw [rounds_succ]
   go_wp2
   all_goals first | (exfalso; omega) | (go_end0; exact ⟨_,rfl,hpost⟩)
  ·cases hsp
end Go.Proofs.YtnolcogncjijpaaGreatDoor
namespace Go.Proofs.YtnolcogncjijpaaGreatDoor
open Go Go.Ab
open Go.Proofs Go.RowKit
def zbb (x:List Weighted):Bool×List Weighted:=(decide (SortOK zZ x)&&decide (x.length<20),zmg zZ x)
def zdl:Ab.Spec ty:=zu (cx:=base) (zf (aOwn 52) (zf (zg (vFn 85 vNil)) aNil)) fun x=>((zbb x.1).1,⟨[],[some ⟨52,(zbb x.1).2⟩]⟩)
set_option maxHeartbeats 1000000 in
theorem zkU:Sound Tryz.prog base 84 zdl where
 enters:=Tryz.call84
 calls:=fun avs r hsp w F vs hF ha hsep=>by
  unfold zdl zu at hsp
  split at hsp
  ·rename_i x hx
   simp only [Option.some.injEq,Prod.mk.injEq] at hsp
   obtain ⟨hpre,rfl⟩:=hsp
   have hk:=(zf (aOwn 52) (zf (zg (vFn 85 vNil)) aNil):AL base _).kind vs avs x hx
   have ha':=(zf (aOwn 52) (zf (zg (vFn 85 vNil)) aNil):AL base _).ok Tryz.prog zD F w vs avs x hx ha
   rw [hk] at hsep ⊢
   clear hk hx ha
   obtain ⟨l0,c,u0⟩:=x
   obtain ⟨l,rfl⟩:∃ l:List Weighted,l=l0:=⟨l0,rfl⟩
   obtain ⟨v,vs',rfl,hv,hv'⟩:=ha'.inv
   obtain ⟨fv,vs'',rfl,hfv,h0⟩:=hv'.inv
   obtain rfl:=h0.nil_left.1
   have hsl:∃ p cap,v=.slice p l.length cap:=by
    obtain ⟨⟨xs,hown,_⟩,_⟩:=(show zc0 base F w v 52 l∧∀ b,z6 v=some b→¬ F b from hv)
    rcases hown.2 with ⟨h1,h2⟩ | ⟨g0,cap,cur,h1,_⟩
    ·exact ⟨none,0,by rw [h1,show l.length=0 from h2]⟩
    ·exact ⟨_,cap,h1⟩
   have hpre:(decide (SortOK (α:=Weighted) zZ l)&&decide (l.length<20))=true:=hpre
   simp only [Bool.and_eq_true,decide_eq_true_eq] at hpre
   obtain ⟨hok,h20⟩:=hpre
   have hpp:(zb8 l (l.length:Int)).1=true:=by
    show (decide (SortOK (α:=Weighted) zZ l)&&(decide ((l.length:Int)=l.length)&&decide ((l.length:Int)<20)))=true
    simp only [Bool.and_eq_true,decide_eq_true_eq]
    exact ⟨hok,trivial,by omega⟩
   have hp:=(zqP).calls [.own 52 l,.pure (.lit (.int .i64 (l.length:Int))),.pure (.fn 85 [])] ⟨[],[some ⟨52,(zbb l).2⟩]⟩
    (by rw [← hpp]; kernel_rfl) w F [v,.int .i64 (l.length:Int),fv] hF (.cons hv (.cons (Rep.lit _) (.cons hfv .nil))) hsep
   replace hp:Calls Tryz.prog 139 #[v,.int .i64 (l.length:Int),fv] w fun e w'=>∃ u,e=.returned u∧Post base F w [v] ⟨[],[some ⟨52,(zbb l).2⟩]⟩ u w':=hp
   show Calls Tryz.prog 84 #[v,fv] w fun e w'=>∃ u,e=.returned u∧Post base F w [v] ⟨[],[some ⟨52,(zbb l).2⟩]⟩ u w'
   generalize (zbb l).2=res at hp ⊢
   generalize hn:l.length=m at *
   clear hpp hv hfv hsep hok hF
   obtain ⟨p,cap,rfl⟩:=hsl
   clear hn
   go_enter Tryz.func84,Tryz.ntmps84
   go_wp2_with (go_at_call 139; refine hp.mono ?_; rintro e w' ⟨u,rfl,hpost⟩; obtain rfl:=hpost.unit)
   go_end0
   exact ⟨_,rfl,hpost⟩
  ·cases hsp
end Go.Proofs.YtnolcogncjijpaaGreatDoor
namespace Go.Proofs.YtnolcogncjijpaaGreatDoor
open Go Go.Ab
abbrev ttTannotationItems0:=Unit×List Weighted×Int×Int×Unit
abbrev ttTannotationItems1:=List Weighted×Unit
def zkj (t6:List Weighted) (t7:Int) (t8:Int) (out_:List Weighted):Wy ttTannotationItems0 ttTannotationItems1 (List Weighted):=.i (decide (t8<t7)) (.i (decide (0≤t8)&&decide (t8<Int.ofNat t6.length)) (.i (decide (Int.ofNat (t6.getD t8.toNat default).Ann.length>0)) (.bn (zfR (t6.getD t8.toNat default).Ann) fun r0=>.i (decide ((out_.length+[WeightedOf.mk (t6.getD t8.toNat default).Value r0].length)*56≤zK)) (.h ((),t6,t7,(IntKind.i64.wrap (t8+1)),()) ((out_++[WeightedOf.mk (t6.getD t8.toNat default).Value r0]),())) .d) (.h ((),t6,t7,(IntKind.i64.wrap (t8+1)),()) (out_,()))) .d) (.k out_)
def zno (x:ttTannotationItems0) (y:ttTannotationItems1):Wy ttTannotationItems0 ttTannotationItems1 (List Weighted):=zkj x.2.1 x.2.2.1 x.2.2.2.1 y.1
def zxp (n:Nat) (t6:List Weighted) (t7:Int) (t8:Int) (out_:List Weighted):Bool×List Weighted:=zQ (zno) default n ((),t6,t7,t8,()) (out_,())
def zvY (r:List Weighted):LTree ty:=.done (.exit 0) [.own 116] [.arr 52 r false]
def zw7:LL ty ttTannotationItems0:=zb (lOwn 116) (zb (lSl 52) (zb (lInt .i64) (zb (lInt .i64) zX)))
def zxb:BL ty ttTannotationItems1:=bArr 52 false (bNil)
def zv9 (x:ttTannotationItems0) (y:ttTannotationItems1):Nat:=(x.2.1.length+Int.toNat x.2.2.1+Int.toNat x.2.2.2.1+y.1.length+1)
def zw4:Cx ty:=mkCx base 29 [(61,annotation_copied_spec),(84,zdl),(85,annotation_compareItems_spec)] [(84,[true,false])] [(3,[(3,.own 52),(6,.keep),(7,.keep),(8,.keep)])] [(3,1,[(3,.keep)])] [(3,spW zw7 zxb (zno) default zvY zv9)] []
theorem zFJ:zbv zw4 (lp (body Tryz.f36) 0):=zbc (id:=3) (V:=zw7) (B:=zxb) (W:=zno) (z:=default) (tr:=zvY) (m:=zv9)
def zsA (l:List Weighted):Wy0 (List Weighted):=.bn (zxp (l.length+(Int.ofNat l.length).toNat +Int.toNat 0+0+1) l (Int.ofNat l.length) 0 []) fun r3=>.bn (zbb r3) fun r2=>.k r2
def zng (l:List Weighted):Bool×List Weighted:=(zsA l).fin default
def zwa (r:List Weighted):ARes ty:=⟨[.own 52 r],[]⟩
def zzy:AL base ttTannotationItems1:=zf (zg (vSl 52)) aNil
def zva:Ab.Spec ty:=zu zzy fun x=>((zng x.1).1,zwa (zng x.1).2)
theorem zDQ:Sound Tryz.prog base 36 zva:=
 zH (cx':=zw4) zT zD zN (zG ⟨zhR,zkU,zgJ,trivial⟩) Tryz.call36 Tryz.func36 (c:=body Tryz.f36) (by kernel_rfl) (zj (l:=[lp (body Tryz.f36) 0]) (by kernel_rfl) ⟨zFJ,trivial⟩) (sg:=⟨[.own 52],[]⟩) (A:=zzy) (res:=zwa) (W:=fun x=>zsA x.1) (z:=default)
def zE1:Cx ty:=mkCx base 7 [(31,annotation_Valid_spec)] [] [] [] [] []
def zqq (w:Weighted):Wy0 (Bool):=.bn (zbP w.Ann) fun r0=>.k (!r0)
def zk9 (w:Weighted):Bool×Bool:=(zqq w).fin default
def zuj (r:Bool):ARes ty:=⟨[.pure (.lit (.bool r))],[]⟩
def zwB:AL base (Weighted×Unit):=zf (zg (vAgg 52)) aNil
def zkb:Ab.Spec ty:=zu zwB fun x=>((zk9 x.1).1,zuj (zk9 x.1).2)
theorem zmX:Sound Tryz.prog base 77 zkb:=
 zH (cx':=zE1) zT zD zN (zG ⟨zcx,trivial⟩) Tryz.call77 Tryz.func77 (c:=body Tryz.f77) (by kernel_rfl) (zj (l:=[]) (by kernel_rfl) trivial) (sg:=⟨[.pure],[]⟩) (A:=zwB) (res:=zuj) (W:=fun x=>zqq x.1) (z:=default)
def zGY:Cx ty:=mkCx base 28 [] [] [] [] [] []
def zsz (op:Int) (sign:Int):Wy0 (Bool):=.i (op==5) (.k (sign==0)) (.i (op==6) (.k (sign != 0)) (.i (op==7) (.k (decide (sign<0))) (.i (op==8) (.k (decide (sign≤0))) (.i (op==9) (.k (decide (sign>0))) (.k (decide (sign≥0)))))))
def znj (op:Int) (sign:Int):Bool×Bool:=(zsz op sign).fin default
def zwQ (r:Bool):ARes ty:=⟨[.pure (.lit (.bool r))],[]⟩
def zyD:AL base (Int×Int×Unit):=zf (zg (vInt .i64)) (zf (zg (vInt .i64)) aNil)
def zvJ:Ab.Spec ty:=zu zyD fun x=>((znj x.1 x.2.1).1,zwQ (znj x.1 x.2.1).2)
theorem zDW:Sound Tryz.prog base 78 zvJ:=
 zH (cx':=zGY) zT zD zN (zG trivial) Tryz.call78 Tryz.func78 (c:=body Tryz.f78) (by kernel_rfl) (zj (l:=[]) (by kernel_rfl) trivial) (sg:=⟨[.pure],[]⟩) (A:=zyD) (res:=zwQ) (W:=fun x=>zsz x.1 x.2.1) (z:=default)
abbrev ttTslicesIndexFuncLapiWeightedapiWeightedt10:=List Weighted×Unit×Int×Int×Unit
def zmF (s:List Weighted) (t7:Int) (t8:Int):Wy ttTslicesIndexFuncLapiWeightedapiWeightedt10 (Unit) (Int⊕Unit):=.i (decide (t8<t7)) (.i (decide (0≤t8)&&decide (t8<Int.ofNat s.length)) (.bn (zk9 (s.getD t8.toNat default)) fun r0=>.i (r0) (.k (.inl t8)) (.h (s,(),t7,(IntKind.i64.wrap (t8+1)),()) ())) .d) (.k (.inr ()))
def zdY (x:ttTslicesIndexFuncLapiWeightedapiWeightedt10) (y:Unit):Wy ttTslicesIndexFuncLapiWeightedapiWeightedt10 (Unit) (Int⊕Unit):=zmF x.1 x.2.2.1 x.2.2.2.1
def zmI (n:Nat) (s:List Weighted) (t7:Int) (t8:Int):Bool×(Int⊕Unit):=zQ (zdY) (.inl default) n (s,(),t7,t8,()) ()
def zga (r:Int⊕Unit):LTree ty:=.ite (isL r) (.done .ret [.lit (.int .i64 (getL r))] []) (.done (.exit 0) [] [])
def zgB:LL ty ttTslicesIndexFuncLapiWeightedapiWeightedt10:=zb (lSl 52) (zb (lFn 77 (zX)) (zb (lInt .i64) (zb (lInt .i64) zX)))
def zgA:BL ty (Unit):=bNil
def zgi (x:ttTslicesIndexFuncLapiWeightedapiWeightedt10) (y:Unit):Nat:=(x.1.length+Int.toNat x.2.2.1+Int.toNat x.2.2.2.1+1)
def zgr:Cx ty:=mkCx base 19 [(77,zkb)] [] [(2,[(0,.keep),(1,.keep),(7,.keep),(8,.keep)])] [(2,1,[]),(2,0,[(4,.keep)])] [(2,spW zgB zgA (zdY) (.inl default) zga zgi)] []
theorem zmp:zbv zgr (lp (body Tryz.f135) 0):=zbc (id:=2) (V:=zgB) (B:=zgA) (W:=zdY) (z:=.inl default) (tr:=zga) (m:=zgi)
def zgQ (s:List Weighted):Wy0 (Int):=.bn (zmI (s.length+(Int.ofNat s.length).toNat +Int.toNat 0+1) s (Int.ofNat s.length) 0) fun r2=>.i (isL r2) (.k (getL r2)) (.k (-1:Int))
def zcP (s:List Weighted):Bool×Int:=(zgQ s).fin default
def zf5 (r:Int):ARes ty:=⟨[.pure (.lit (.int .i64 r))],[]⟩
def zg5:AL base (List Weighted×Unit×Unit):=zf (zg (vSl 52)) (zf (zg (vFn 77 vNil)) aNil)
def zfL:Ab.Spec ty:=zu zg5 fun x=>((zcP x.1).1,zf5 (zcP x.1).2)
theorem zlD:Sound Tryz.prog base 135 zfL:=
 zH (cx':=zgr) zT zD zN (zG ⟨zmX,trivial⟩) Tryz.call135 Tryz.func135 (c:=body Tryz.f135) (by kernel_rfl) (zj (l:=[lp (body Tryz.f135) 0]) (by kernel_rfl) ⟨zmp,trivial⟩) (sg:=⟨[.pure],[]⟩) (A:=zg5) (res:=zf5) (W:=fun x=>zgQ x.1) (z:=default)
def zlG:Cx ty:=mkCx base 9 [(77,zkb),(135,zfL)] [] [] [] [] []
def zdI (s:List Weighted):Wy0 (Bool):=.bn (zcP s) fun r0=>.k (decide (r0≥0))
def zbN (s:List Weighted):Bool×Bool:=(zdI s).fin default
def zfk (r:Bool):ARes ty:=⟨[.pure (.lit (.bool r))],[]⟩
def zfM:AL base (List Weighted×Unit×Unit):=zf (zg (vSl 52)) (zf (zg (vFn 77 vNil)) aNil)
def ze5:Ab.Spec ty:=zu zfM fun x=>((zbN x.1).1,zfk (zbN x.1).2)
theorem zkN:Sound Tryz.prog base 76 ze5:=
 zH (cx':=zlG) zT zD zN (zG ⟨zmX,zlD,trivial⟩) Tryz.call76 Tryz.func76 (c:=body Tryz.f76) (by kernel_rfl) (zj (l:=[]) (by kernel_rfl) trivial) (sg:=⟨[.pure],[]⟩) (A:=zfM) (res:=zfk) (W:=fun x=>zdI x.1) (z:=default)
def zHQ:Cx ty:=mkCx base 45 [(29,znp),(36,zva),(53,zem),(62,zfA),(75,znA),(76,ze5),(77,zkb),(78,zvJ),(79,zkG)] [] [] [] [] []
def ztR (fn:Int) (items:List Weighted) (op:Int) (bound:Value):Wy0 (List Term×Int):=.bn (ziK fn items op bound) fun r5=>.i (!r5) (.k ([],1)) (.bn (zbN items) fun r4=>.i (r4) (.k ([],1)) (.bn (zng items) fun r3=>.i (decide (Int.ofNat r3.length>0)) (.bn (zdQ (zeK (Atom.mk 4 (RowID.mk 0 0) [] fn r3 op bound)).2) fun r0=>.k (r0.1,r0.2)) (.i (fn==0) (.bn (zh4 0 bound.Int) fun r2=>.bn (znj op r2) fun r1=>.i (r1) (.k (zo7.2,0)) (.k ([],0))) (.k ([],0)))))
def zll (fn:Int) (items:List Weighted) (op:Int) (bound:Value):Bool×(List Term×Int):=(ztR fn items op bound).fin default
def zxu (r:List Term×Int):ARes ty:=⟨[.own 42 r.1,.pure (.lit (.int .i64 r.2))],[]⟩
def zAz:AL base (Int×List Weighted×Int×Value×Unit):=zf (zg (vInt .i64)) (zf (zg (vSl 52)) (zf (zg (vInt .i64)) (zf (zg (vAgg 46)) aNil)))
def zwL:Ab.Spec ty:=zu zAz fun x=>((zll x.1 x.2.1 x.2.2.1 x.2.2.2.1).1,zxu (zll x.1 x.2.1 x.2.2.1 x.2.2.2.1).2)
theorem zD8:Sound Tryz.prog base 33 zwL:=
 zH (cx':=zHQ) zT zD zN (zG ⟨zqp,zDQ,zeS,zhT,zs1,zkN,zmX,zDW,znP,trivial⟩) Tryz.call33 Tryz.func33 (c:=body Tryz.f33) (by kernel_rfl) (zj (l:=[]) (by kernel_rfl) trivial) (sg:=⟨[.own 42,.pure],[]⟩) (A:=zAz) (res:=zxu) (W:=fun x=>ztR x.1 x.2.1 x.2.2.1 x.2.2.2.1) (z:=default)
abbrev ttTannotationreplaceAtom0:=((List Binding×Unit)×Unit)×Unit×Unit×List (List Term)×Int×Int×Unit
abbrev ttTannotationreplaceAtom1:=Atom×List (List Term)×Unit
abbrev ttTannotationreplaceAtom2:=Int⊕(List Binding×Atom×List (List Term))
abbrev ttTannotationreplaceAtom3:=((List Binding×Unit)×Unit)×Unit×Unit×List Weighted×Int×Int×Unit
abbrev ttTannotationreplaceAtom4:=Atom×List Weighted×Unit
abbrev ttTannotationreplaceAtom5:=Int⊕(Atom×List Weighted)
def zk0 (zF:List Term→List Binding→Bool×(List Term×Int)) (to:List Binding) (t24:List (List Term)) (t25:Int) (t26:Int) (x_:Atom) (args:List (List Term)):Wy ttTannotationreplaceAtom0 ttTannotationreplaceAtom1 ttTannotationreplaceAtom2:=.i (decide (t26<t25)) (.i (decide (0≤t26)&&decide (t26<Int.ofNat t24.length)) (.bn (zF (t24.getD t26.toNat default) to) fun r2=>.i (r2.2 != 0) (.k (.inl (r2.2))) (.i (decide ((args.length+[r2.1].length)*24≤zK)) (.h (((to,()),()),(),(),t24,t25,(IntKind.i64.wrap (t26+1)),()) (x_,(args++[r2.1]),())) .d)) .d) (.k (.inr (to,x_,args)))
def zld (zF:List Term→List Binding→Bool×(List Term×Int)) (x:ttTannotationreplaceAtom0) (y:ttTannotationreplaceAtom1):Wy ttTannotationreplaceAtom0 ttTannotationreplaceAtom1 ttTannotationreplaceAtom2:=zk0 zF x.1.1.1 x.2.2.2.1 x.2.2.2.2.1 x.2.2.2.2.2.1 y.1 y.2.1
def zh6 (zF:List Term→List Binding→Bool×(List Term×Int)) (n:Nat) (to:List Binding) (t24:List (List Term)) (t25:Int) (t26:Int) (x_:Atom) (args:List (List Term)):Bool×ttTannotationreplaceAtom2:=zQ (zld zF) (.inl default) n (((to,()),()),(),(),t24,t25,t26,()) (x_,args,())
def zpj (r:ttTannotationreplaceAtom2):LTree ty:=.ite (isL r) (.done .ret [.lit (.slice none 0 0),.lit (.int .i64 (getL r))] []) (.done (.exit 0) [.fn 93 ([.bptr ([.sl 69 (getR r).1]) 0]),.ptr 432 0,.own 433] [.box (base.enc 48 (getR r).2.1) false,.arr 23 (getR r).2.2 false])
def zpZ:LL ty ttTannotationreplaceAtom0:=zb (lFn 93 (zb (zy3 (zb (lSl 69) zX) 0) zX)) (zb (zrG 432 0) (zb (lOwn 433) (zb (lSl 23) (zb (lInt .i64) (zb (lInt .i64) zX)))))
def zpY:BL ty ttTannotationreplaceAtom1:=bBox (zuG (fun x=>(⟨x.1,⟨x.2.1,x.2.2.1⟩,x.2.2.2.1,x.2.2.2.2.1,x.2.2.2.2.2.1,x.2.2.2.2.2.2.1,⟨x.2.2.2.2.2.2.2.1,x.2.2.2.2.2.2.2.2.1,x.2.2.2.2.2.2.2.2.2.1⟩⟩:Atom)) (fun x=>(x.Kind,x.Row.Table,x.Row.Seq,x.Args,x.Func,x.Items,x.Op,x.Bound.Kind,x.Bound.Int,x.Bound.Text,())) (fun _=>rfl) (zb (lInt .i64) (zb (lInt .i64) (zb (lInt .i64) (zb (lSl 23) (zb (lInt .i64) (zb (lSl 52) (zb (lInt .i64) (zb (lInt .i64) (zb (lInt .i64) (zb lStr zX))))))))))) false (bArr 23 false (bNil))
def zkA (zF:List Term→List Binding→Bool×(List Term×Int)) (to:List Binding) (t74:List Weighted) (t75:Int) (t76:Int) (x_:Atom) (items:List Weighted):Wy ttTannotationreplaceAtom3 ttTannotationreplaceAtom4 ttTannotationreplaceAtom5:=.i (decide (t76<t75)) (.i (decide (0≤t76)&&decide (t76<Int.ofNat t74.length)) (.bn (zF (t74.getD t76.toNat default).Ann to) fun r4=>.i (r4.2 != 0) (.k (.inl (r4.2))) (.i (decide ((items.length+[WeightedOf.mk (t74.getD t76.toNat default).Value r4.1].length)*56≤zK)) (.h (((to,()),()),(),(),t74,t75,(IntKind.i64.wrap (t76+1)),()) (x_,(items++[WeightedOf.mk (t74.getD t76.toNat default).Value r4.1]),())) .d)) .d) (.k (.inr (x_,items)))
def zks (zF:List Term→List Binding→Bool×(List Term×Int)) (x:ttTannotationreplaceAtom3) (y:ttTannotationreplaceAtom4):Wy ttTannotationreplaceAtom3 ttTannotationreplaceAtom4 ttTannotationreplaceAtom5:=zkA zF x.1.1.1 x.2.2.2.1 x.2.2.2.2.1 x.2.2.2.2.2.1 y.1 y.2.1
def zhy (zF:List Term→List Binding→Bool×(List Term×Int)) (n:Nat) (to:List Binding) (t74:List Weighted) (t75:Int) (t76:Int) (x_:Atom) (items:List Weighted):Bool×ttTannotationreplaceAtom5:=zQ (zks zF) (.inl default) n (((to,()),()),(),(),t74,t75,t76,()) (x_,items,())
def zoL (r:ttTannotationreplaceAtom5):LTree ty:=.ite (isL r) (.done .ret [.lit (.slice none 0 0),.lit (.int .i64 (getL r))] []) (.done (.exit 3) [.ptr 432 0,.own 433] [.box (base.enc 48 (getR r).1) false,.arr 52 (getR r).2 false])
def zpa:LL ty ttTannotationreplaceAtom3:=zb (lFn 93 (zb (zy3 (zb (lSl 69) zX) 0) zX)) (zb (zrG 432 0) (zb (lOwn 433) (zb (lSl 52) (zb (lInt .i64) (zb (lInt .i64) zX)))))
def zpp:BL ty ttTannotationreplaceAtom4:=bBox (zuG (fun x=>(⟨x.1,⟨x.2.1,x.2.2.1⟩,x.2.2.2.1,x.2.2.2.2.1,x.2.2.2.2.2.1,x.2.2.2.2.2.2.1,⟨x.2.2.2.2.2.2.2.1,x.2.2.2.2.2.2.2.2.1,x.2.2.2.2.2.2.2.2.2.1⟩⟩:Atom)) (fun x=>(x.Kind,x.Row.Table,x.Row.Seq,x.Args,x.Func,x.Items,x.Op,x.Bound.Kind,x.Bound.Int,x.Bound.Text,())) (fun _=>rfl) (zb (lInt .i64) (zb (lInt .i64) (zb (lInt .i64) (zb (lSl 23) (zb (lInt .i64) (zb (lSl 52) (zb (lInt .i64) (zb (lInt .i64) (zb (lInt .i64) (zb lStr zX))))))))))) false (bArr 52 false (bNil))
def zo2 (x:ttTannotationreplaceAtom0) (y:ttTannotationreplaceAtom1):Nat:=(x.1.1.1.length+x.2.2.2.1.length+Int.toNat x.2.2.2.2.1+Int.toNat x.2.2.2.2.2.1+y.1.Args.length+y.1.Items.length+y.2.1.length+1)
def zoM (x:ttTannotationreplaceAtom3) (y:ttTannotationreplaceAtom4):Nat:=(x.1.1.1.length+x.2.2.2.1.length+Int.toNat x.2.2.2.2.1+Int.toNat x.2.2.2.2.2.1+y.1.Args.length+y.1.Items.length+y.2.1.length+1)
def zkV (zF:List Term→List Binding→Bool×(List Term×Int)):Cx ty:=mkCx base0 108 [(18,zlx),(20,zlj),(22,zon),(33,zwL),(92,(zjA zF)),(93,zgH)] [] [(5,[(1,.keep),(2,.keep),(6,.own 23),(24,.keep),(25,.keep),(26,.keep)]),(21,[(1,.keep),(2,.keep),(11,.own 52),(74,.keep),(75,.keep),(76,.keep)])] [(5,1,[(1,.keep),(2,.keep),(6,.keep)]),(5,0,[(4,.keep),(5,.keep)]),(21,4,[(2,.keep),(11,.keep)]),(21,0,[(4,.keep),(5,.keep)])] [(5,spW zpZ zpY (zld zF) (.inl default) zpj zo2),(21,spW zpa zpp (zks zF) (.inl default) zoL zoM)] []
theorem zx6 (zF:List Term→List Binding→Bool×(List Term×Int)):zbv (zkV zF) (lp (body Tryz.f140) 0):=zbc (id:=5) (V:=zpZ) (B:=zpY) (W:=zld zF) (z:=.inl default) (tr:=zpj) (m:=zo2)
theorem zw2 (zF:List Term→List Binding→Bool×(List Term×Int)):zbv (zkV zF) (lp (body Tryz.f140) 1):=zbc (id:=21) (V:=zpa) (B:=zpp) (W:=zks zF) (z:=.inl default) (tr:=zoL) (m:=zoM)
def zlF (zF:List Term→List Binding→Bool×(List Term×Int)) (x_:Atom) (to:List Binding):Wy0 (List Term×Int):=.i (x_.Kind==0) (.bn (zg6 x_.Row to) fun r6=>.k (r6,0)) (.bn (zh6 zF (to.length+x_.Args.length+(Int.ofNat x_.Args.length).toNat +Int.toNat 0+x_.Args.length+x_.Items.length+0+1) to x_.Args (Int.ofNat x_.Args.length) 0 (Atom.mk x_.Kind x_.Row x_.Args x_.Func x_.Items x_.Op x_.Bound) []) fun r12=>.i (isL r12) (.k ([],getL r12)) (.i ((getR r12).2.1.Kind==1) (.i (decide ((0:Int)≤(0:Int))&&decide (0<Int.ofNat (getR r12).2.2.length)) (.i (decide ((0:Int)≤(1:Int))&&decide (1<Int.ofNat (getR r12).2.2.length)) (.bn (zkn ((getR r12).2.2.getD (Int.toNat 0) default) ((getR r12).2.2.getD (Int.toNat 1) default)) fun r7=>.k (r7.1,r7.2)) .d) .d) (.i ((getR r12).2.1.Kind==2) (.i (decide ((0:Int)≤(0:Int))&&decide (0<Int.ofNat (getR r12).2.2.length)) (.bn (zku ((getR r12).2.2.getD (Int.toNat 0) default)) fun r8=>.k (r8.1,r8.2)) .d) (.i ((getR r12).2.1.Kind==3) (.i (decide ((0:Int)≤(0:Int))&&decide (0<Int.ofNat (getR r12).2.2.length)) (.bn (zjJ ((getR r12).2.2.getD (Int.toNat 0) default)) fun r9=>.k (r9.1,r9.2)) .d) (.bn (zhy zF ((getR r12).1.length+(getR r12).2.1.Items.length+(Int.ofNat (getR r12).2.1.Items.length).toNat +Int.toNat 0+(getR r12).2.1.Args.length+(getR r12).2.1.Items.length+0+1) (getR r12).1 (getR r12).2.1.Items (Int.ofNat (getR r12).2.1.Items.length) 0 (Atom.mk (getR r12).2.1.Kind (getR r12).2.1.Row (getR r12).2.1.Args (getR r12).2.1.Func (getR r12).2.1.Items (getR r12).2.1.Op (getR r12).2.1.Bound) []) fun r11=>.i (isL r11) (.k ([],getL r11)) (.bn (zll (getR r11).1.Func (getR r11).2 (getR r11).1.Op (getR r11).1.Bound) fun r10=>.k (r10.1,r10.2)))))))
def zgZ (zF:List Term→List Binding→Bool×(List Term×Int)) (x_:Atom) (to:List Binding):Bool×(List Term×Int):=(zlF zF x_ to).fin default
theorem zww (zF:List Term→List Binding→Bool×(List Term×Int)) (zDP:Sound Tryz.prog base0 92 (zjA zF)):Sound Tryz.prog base0 140 (zje (zgZ zF)):=
 zH (cx':=(zkV zF)) zT zh3 zN (zG ⟨zoD.nodr,zoG.nodr,zts.nodr,zD8.nodr,zDP,zjw.nodr,trivial⟩) Tryz.call140 Tryz.func140 (c:=body Tryz.f140) (by kernel_rfl) (zj (l:=[lp (body Tryz.f140) 0,lp (body Tryz.f140) 1]) (by kernel_rfl) ⟨zx6 zF,zw2 zF,trivial⟩) (sg:=⟨[.own 42,.pure],[]⟩) (A:=zr1) (res:=zqX) (W:=fun x=>zlF zF x.1 x.2.1.1.1) (z:=default)
def zyn:Nat→(List Term→List Binding→Bool×(List Term×Int))×(Atom→List Binding→Bool×(List Term×Int))
 | 0=>(fun _ _=>(false,default),fun _ _=>(false,default))
 | n+1=>(zjn ((zyn n).2),zgZ ((zyn n).1))
def zjc (n:Nat):List Term→List Binding→Bool×(List Term×Int):=(zyn n).1
def zgS (n:Nat):Atom→List Binding→Bool×(List Term×Int):=(zyn n).2
theorem zCR (n:Nat):zjc (n+1)=zjn (zgS n):=rfl
theorem zyB (n:Nat):zgS (n+1)=zgZ (zjc n):=rfl
theorem zGf:∀ n,Sound Tryz.prog base0 92 (zjA (zjc n))∧Sound Tryz.prog base0 140 (zje (zgS n))
 | 0=>⟨zbH Tryz.call92 (fun _=>rfl),zbH Tryz.call140 (fun _=>rfl)⟩
 | n+1=>by
  have ih:=zGf n
  exact ⟨zzO _ (ih.2),zww _ (ih.1)⟩
def zr2:List Term→List Binding→Bool×(List Term×Int):=zjc 1000
def annotation_replace_spec:Ab.Spec ty:=zjA zr2
theorem zB8:Sound Tryz.prog base0 92 annotation_replace_spec:=(zGf 1000).1
def zyF:Cx ty:=mkCx base 7 [(31,annotation_Valid_spec)] [] [] [] [] []
def zlI (b:Binding):Wy0 (Bool):=.bn (zbP b.To) fun r0=>.k (!r0)
def zhc (b:Binding):Bool×Bool:=(zlI b).fin default
def zo5 (r:Bool):ARes ty:=⟨[.pure (.lit (.bool r))],[]⟩
def zqS:AL base (Binding×Unit):=zf (zg (vAgg 69)) aNil
def zgI:Ab.Spec ty:=zu zqS fun x=>((zhc x.1).1,zo5 (zhc x.1).2)
theorem zjt:Sound Tryz.prog base 91 zgI:=
 zH (cx':=zyF) zT zD zN (zG ⟨zcx,trivial⟩) Tryz.call91 Tryz.func91 (c:=body Tryz.f91) (by kernel_rfl) (zj (l:=[]) (by kernel_rfl) trivial) (sg:=⟨[.pure],[]⟩) (A:=zqS) (res:=zo5) (W:=fun x=>zlI x.1) (z:=default)
abbrev ttTslicesIndexFuncLapiBindingapiBindings10:=List Binding×Unit×Int×Int×Unit
def znw (s:List Binding) (t7:Int) (t8:Int):Wy ttTslicesIndexFuncLapiBindingapiBindings10 (Unit) (Int⊕Unit):=.i (decide (t8<t7)) (.i (decide (0≤t8)&&decide (t8<Int.ofNat s.length)) (.bn (zhc (s.getD t8.toNat default)) fun r0=>.i (r0) (.k (.inl t8)) (.h (s,(),t7,(IntKind.i64.wrap (t8+1)),()) ())) .d) (.k (.inr ()))
def zeg (x:ttTslicesIndexFuncLapiBindingapiBindings10) (y:Unit):Wy ttTslicesIndexFuncLapiBindingapiBindings10 (Unit) (Int⊕Unit):=znw x.1 x.2.2.1 x.2.2.2.1
def zny (n:Nat) (s:List Binding) (t7:Int) (t8:Int):Bool×(Int⊕Unit):=zQ (zeg) (.inl default) n (s,(),t7,t8,()) ()
def zgM (r:Int⊕Unit):LTree ty:=.ite (isL r) (.done .ret [.lit (.int .i64 (getL r))] []) (.done (.exit 0) [] [])
def zht:LL ty ttTslicesIndexFuncLapiBindingapiBindings10:=zb (lSl 69) (zb (lFn 91 (zX)) (zb (lInt .i64) (zb (lInt .i64) zX)))
def zhm:BL ty (Unit):=bNil
def zg2 (x:ttTslicesIndexFuncLapiBindingapiBindings10) (y:Unit):Nat:=(x.1.length+Int.toNat x.2.2.1+Int.toNat x.2.2.2.1+1)
def zhs:Cx ty:=mkCx base 19 [(91,zgI)] [] [(2,[(0,.keep),(1,.keep),(7,.keep),(8,.keep)])] [(2,1,[]),(2,0,[(4,.keep)])] [(2,spW zht zhm (zeg) (.inl default) zgM zg2)] []
theorem zni:zbv zhs (lp (body Tryz.f94) 0):=zbc (id:=2) (V:=zht) (B:=zhm) (W:=zeg) (z:=.inl default) (tr:=zgM) (m:=zg2)
def zhO (s:List Binding):Wy0 (Int):=.bn (zny (s.length+(Int.ofNat s.length).toNat +Int.toNat 0+1) s (Int.ofNat s.length) 0) fun r2=>.i (isL r2) (.k (getL r2)) (.k (-1:Int))
def zc9 (s:List Binding):Bool×Int:=(zhO s).fin default
def zg3 (r:Int):ARes ty:=⟨[.pure (.lit (.int .i64 r))],[]⟩
def zhS:AL base (List Binding×Unit×Unit):=zf (zg (vSl 69)) (zf (zg (vFn 91 vNil)) aNil)
def zgq:Ab.Spec ty:=zu zhS fun x=>((zc9 x.1).1,zg3 (zc9 x.1).2)
theorem zmq:Sound Tryz.prog base 94 zgq:=
 zH (cx':=zhs) zT zD zN (zG ⟨zjt,trivial⟩) Tryz.call94 Tryz.func94 (c:=body Tryz.f94) (by kernel_rfl) (zj (l:=[lp (body Tryz.f94) 0]) (by kernel_rfl) ⟨zni,trivial⟩) (sg:=⟨[.pure],[]⟩) (A:=zhS) (res:=zg3) (W:=fun x=>zhO x.1) (z:=default)
def zmc:Cx ty:=mkCx base 9 [(91,zgI),(94,zgq)] [] [] [] [] []
def zdX (s:List Binding):Wy0 (Bool):=.bn (zc9 s) fun r0=>.k (decide (r0≥0))
def zbS (s:List Binding):Bool×Bool:=(zdX s).fin default
def zfN (r:Bool):ARes ty:=⟨[.pure (.lit (.bool r))],[]⟩
def zgE:AL base (List Binding×Unit×Unit):=zf (zg (vSl 69)) (zf (zg (vFn 91 vNil)) aNil)
def zfy:Ab.Spec ty:=zu zgE fun x=>((zbS x.1).1,zfN (zbS x.1).2)
theorem zlf:Sound Tryz.prog base 90 zfy:=
 zH (cx':=zmc) zT zD zN (zG ⟨zjt,zmq,trivial⟩) Tryz.call90 Tryz.func90 (c:=body Tryz.f90) (by kernel_rfl) (zj (l:=[]) (by kernel_rfl) trivial) (sg:=⟨[.pure],[]⟩) (A:=zgE) (res:=zfN) (W:=fun x=>zdX x.1) (z:=default)
def zB1:Cx ty:=mkCx base0 18 [(31,annotation_Valid_spec),(90,zfy),(91,zgI),(92,annotation_replace_spec),(93,zgH)] [] [] [] [] []
def znJ (a:List Term) (l:List Binding):Wy0 (List Term×Int):=.bn (zbP a) fun r2=>.i (!r2) (.k ([],1)) (.bn (zbS l) fun r1=>.i (r1) (.k ([],1)) (.bn (zr2 a l) fun r0=>.k (r0.1,r0.2)))
def zeb (a:List Term) (l:List Binding):Bool×(List Term×Int):=(znJ a l).fin default
def zrF (r:List Term×Int):ARes ty:=⟨[.own 42 r.1,.pure (.lit (.int .i64 r.2))],[]⟩
def zth:AL base0 (List Term×List Binding×Unit):=zf (zg (vSl 42)) (zf (zg (vSl 69)) aNil)
def zlM:Ab.Spec ty:=zu zth fun x=>((zeb x.1 x.2.1).1,zrF (zeb x.1 x.2.1).2)
theorem zp0:Sound Tryz.prog base0 41 zlM:=
 zH (cx':=zB1) zT zh3 zN (zG ⟨zcx.nodr,zlf.nodr,zjt.nodr,zB8,zjw.nodr,trivial⟩) Tryz.call41 Tryz.func41 (c:=body Tryz.f41) (by kernel_rfl) (zj (l:=[]) (by kernel_rfl) trivial) (sg:=⟨[.own 42,.pure],[]⟩) (A:=zth) (res:=zrF) (W:=fun x=>znJ x.1 x.2.1) (z:=default)
def zFS:Cx ty:=mkCx base0 8 [(31,annotation_Valid_spec),(109,annotation_text_spec)] [] [] [] [] []
def zxs (a:List Term):Wy0 (ByteArray):=.bn (zbP a) fun r1=>.i (!r1) (.k (ByteArray.mk #[])) (.bn (zCS a) fun r0=>.k r0)
def zAh (a:List Term):Bool×ByteArray:=(zxs a).fin default
def zvv (r:ByteArray):ARes ty:=⟨[.pure (.lit (.string r))],[]⟩
def zw8:AL base0 (List Term×Unit):=zf (zg (vSl 42)) aNil
def zt4:Ab.Spec ty:=zu zw8 fun x=>((zAh x.1).1,zvv (zAh x.1).2)
theorem zCK:Sound Tryz.prog base0 51 zt4:=
 zH (cx':=zFS) zT zh3 zN (zG ⟨zcx.nodr,zEJ,trivial⟩) Tryz.call51 Tryz.func51 (c:=body Tryz.f51) (by kernel_rfl) (zj (l:=[]) (by kernel_rfl) trivial) (sg:=⟨[.pure],[]⟩) (A:=zw8) (res:=zvv) (W:=fun x=>zxs x.1) (z:=default)
def zMu:Cx ty:=mkCx base0 84 [(13,znl),(16,znq),(18,zlx),(20,zlj),(25,zpi),(27,zrj),(41,zlM),(51,zt4)] [] [] [] [] []
def zGw:Wy0 (Bool):=.k true
def zJF:Bool×Bool:=(zGw).fin default
def zDc (r:Bool):ARes ty:=⟨[.pure (.lit (.bool r))],[]⟩
def zF8:AL base0 (Unit):=aNil
def zBx:Ab.Spec ty:=zu zF8 fun x=>((zJF ).1,zDc (zJF ).2)
theorem zI9:Sound Tryz.prog base0 11 zBx:=
 zH (cx':=zMu) zT zh3 zN (zG ⟨zql,zqf,zoD.nodr,zoG.nodr,zuh.nodr,zwG.nodr,zp0,zCK,trivial⟩) Tryz.call11 Tryz.func11 (c:=body Tryz.f11) (by kernel_rfl) (zj (l:=[]) (by kernel_rfl) trivial) (sg:=⟨[.pure],[]⟩) (A:=zF8) (res:=zDc) (W:=fun x=>zGw ) (z:=default)
def zB4 (r:Int):ARes ty:=⟨[.pure (.lit (.int .i64 r))],[]⟩
def zEI:AL base (List Term×Int×Int×Unit):=zf (zg (vSl 42)) (zf (zg (vInt .i64)) (zf (zg (vInt .i64)) aNil))
def zo4 (F:List Term→Int→Int→Bool×Int):Ab.Spec ty:=zu zEI fun x=>((F x.1 x.2.1 x.2.2.1).1,zB4 (F x.1 x.2.1 x.2.2.1).2)
abbrev ttTref05weight0:=List Term×Int×Int×Int×Int×Int×Unit×Int×Unit
abbrev ttTref05weight1:=List Term×Int×Int×Int×Int×Int×Atom
abbrev ttTref05weight2:=List Term×Int×Int×Int×Int×Int
abbrev ttTref05weight3:=List Term×Int×Int×Int×Int×Int×Unit
abbrev ttTref05weight4:=List Term×Int×Int×Int×Int
abbrev ttTref05weight5:=List Term×Int×Int×Int×Int×Unit
def zr6 (zw:List Term→Int→Int→Bool×Int) (a:List Term) (limit:Int) (deep:Int) (n_:Int) (i:Int) (k:Int) (j:Int) (x_:Atom):Wy ttTref05weight0 (Atom×Unit) ttTref05weight1:=.i (decide (j<Int.ofNat x_.Args.length)) (.i (decide (n_≤limit)) (.i (decide (0≤j)&&decide (j<Int.ofNat x_.Args.length)) (.bn (zw (x_.Args.getD j.toNat default) (IntKind.i64.wrap (limit - n_)) (IntKind.i64.wrap (deep - 1))) fun r0=>.h (a,limit,deep,(IntKind.i64.wrap (n_+r0)),i,k,(),(IntKind.i64.wrap (j+1)),()) (x_,())) .d) (.k (a,limit,deep,n_,i,k,x_))) (.k (a,limit,deep,n_,i,k,x_))
def zsP (zw:List Term→Int→Int→Bool×Int) (x:ttTref05weight0) (y:Atom×Unit):Wy ttTref05weight0 (Atom×Unit) ttTref05weight1:=zr6 zw x.1 x.2.1 x.2.2.1 x.2.2.2.1 x.2.2.2.2.1 x.2.2.2.2.2.1 x.2.2.2.2.2.2.2.1 y.1
def zso (zw:List Term→Int→Int→Bool×Int) (n:Nat) (a:List Term) (limit:Int) (deep:Int) (n_:Int) (i:Int) (k:Int) (j:Int) (x_:Atom):Bool×ttTref05weight1:=zQ (zsP zw) default n (a,limit,deep,n_,i,k,(),j,()) (x_,())
def zxn (r:ttTref05weight1):LTree ty:=.done (.exit 4) [.sl 42 r.1,.lit (.int .i64 r.2.1),.lit (.int .i64 r.2.2.1),.lit (.int .i64 r.2.2.2.1),.lit (.int .i64 r.2.2.2.2.1),.lit (.int .i64 r.2.2.2.2.2.1),.ptr 544 0] [.box (base.enc 48 r.2.2.2.2.2.2) false]
def zyv:LL ty ttTref05weight0:=zb (lSl 42) (zb (lInt .i64) (zb (lInt .i64) (zb (lInt .i64) (zb (lInt .i64) (zb (lInt .i64) (zb (zrG 544 0) (zb (lInt .i64) zX)))))))
def zyP:BL ty (Atom×Unit):=bBox (zuG (fun x=>(⟨x.1,⟨x.2.1,x.2.2.1⟩,x.2.2.2.1,x.2.2.2.2.1,x.2.2.2.2.2.1,x.2.2.2.2.2.2.1,⟨x.2.2.2.2.2.2.2.1,x.2.2.2.2.2.2.2.2.1,x.2.2.2.2.2.2.2.2.2.1⟩⟩:Atom)) (fun x=>(x.Kind,x.Row.Table,x.Row.Seq,x.Args,x.Func,x.Items,x.Op,x.Bound.Kind,x.Bound.Int,x.Bound.Text,())) (fun _=>rfl) (zb (lInt .i64) (zb (lInt .i64) (zb (lInt .i64) (zb (lSl 23) (zb (lInt .i64) (zb (lSl 52) (zb (lInt .i64) (zb (lInt .i64) (zb (lInt .i64) (zb lStr zX))))))))))) false (bNil)
def zsf (zw:List Term→Int→Int→Bool×Int) (a:List Term) (limit:Int) (deep:Int) (n_:Int) (i:Int) (k:Int) (j:Int) (x_:Atom):Wy ttTref05weight0 (Atom×Unit) ttTref05weight2:=.i (decide (j<Int.ofNat x_.Items.length)) (.i (decide (n_≤limit)) (.i (decide (0≤j)&&decide (j<Int.ofNat x_.Items.length)) (.i (decide (0≤j)&&decide (j<Int.ofNat x_.Items.length)) (.bn (zw (x_.Items.getD j.toNat default).Ann (IntKind.i64.wrap (limit - n_)) (IntKind.i64.wrap (deep - 1))) fun r2=>.h (a,limit,deep,(IntKind.i64.wrap (IntKind.i64.wrap (n_+Int.ofNat (x_.Items.getD j.toNat default).Value.Text.size)+r2)),i,k,(),(IntKind.i64.wrap (j+1)),()) (x_,())) .d) .d) (.k (a,limit,deep,n_,i,k))) (.k (a,limit,deep,n_,i,k))
def zs0 (zw:List Term→Int→Int→Bool×Int) (x:ttTref05weight0) (y:Atom×Unit):Wy ttTref05weight0 (Atom×Unit) ttTref05weight2:=zsf zw x.1 x.2.1 x.2.2.1 x.2.2.2.1 x.2.2.2.2.1 x.2.2.2.2.2.1 x.2.2.2.2.2.2.2.1 y.1
def zrY (zw:List Term→Int→Int→Bool×Int) (n:Nat) (a:List Term) (limit:Int) (deep:Int) (n_:Int) (i:Int) (k:Int) (j:Int) (x_:Atom):Bool×ttTref05weight2:=zQ (zs0 zw) default n (a,limit,deep,n_,i,k,(),j,()) (x_,())
def zxc (r:ttTref05weight2):LTree ty:=.done (.exit 6) [.sl 42 r.1,.lit (.int .i64 r.2.1),.lit (.int .i64 r.2.2.1),.lit (.int .i64 r.2.2.2.1),.lit (.int .i64 r.2.2.2.2.1),.lit (.int .i64 r.2.2.2.2.2)] []
def zyO:LL ty ttTref05weight0:=zb (lSl 42) (zb (lInt .i64) (zb (lInt .i64) (zb (lInt .i64) (zb (lInt .i64) (zb (lInt .i64) (zb (zrG 544 0) (zb (lInt .i64) zX)))))))
def zyU:BL ty (Atom×Unit):=bBox (zuG (fun x=>(⟨x.1,⟨x.2.1,x.2.2.1⟩,x.2.2.2.1,x.2.2.2.2.1,x.2.2.2.2.2.1,x.2.2.2.2.2.2.1,⟨x.2.2.2.2.2.2.2.1,x.2.2.2.2.2.2.2.2.1,x.2.2.2.2.2.2.2.2.2.1⟩⟩:Atom)) (fun x=>(x.Kind,x.Row.Table,x.Row.Seq,x.Args,x.Func,x.Items,x.Op,x.Bound.Kind,x.Bound.Int,x.Bound.Text,())) (fun _=>rfl) (zb (lInt .i64) (zb (lInt .i64) (zb (lInt .i64) (zb (lSl 23) (zb (lInt .i64) (zb (lSl 52) (zb (lInt .i64) (zb (lInt .i64) (zb (lInt .i64) (zb lStr zX))))))))))) false (bNil)
def ztU (zw:List Term→Int→Int→Bool×Int) (a:List Term) (limit:Int) (deep:Int) (n_:Int) (i:Int) (k:Int):Wy ttTref05weight3 (Unit) ttTref05weight4:=.i (decide (0≤i)&&decide (i<Int.ofNat a.length)) (.i (decide (k<Int.ofNat (a.getD i.toNat default).Factors.length)) (.i (decide (n_≤limit)) (.i (decide (0≤i)&&decide (i<Int.ofNat a.length)) (.i (decide (0≤k)&&decide (k<Int.ofNat (a.getD i.toNat default).Factors.length)) (.bn (zso zw ((a.length+limit.toNat +deep.toNat +(IntKind.i64.wrap (IntKind.i64.wrap (IntKind.i64.wrap (n_+Int.ofNat ((a.getD i.toNat default).Factors.getD k.toNat default).Atom.Items.length)+Int.ofNat ((a.getD i.toNat default).Factors.getD k.toNat default).Atom.Args.length)+Int.ofNat ((a.getD i.toNat default).Factors.getD k.toNat default).Atom.Bound.Text.size)).toNat +i.toNat +k.toNat +Int.toNat 0+1)+(Atom.mk ((a.getD i.toNat default).Factors.getD k.toNat default).Atom.Kind ((a.getD i.toNat default).Factors.getD k.toNat default).Atom.Row ((a.getD i.toNat default).Factors.getD k.toNat default).Atom.Args ((a.getD i.toNat default).Factors.getD k.toNat default).Atom.Func ((a.getD i.toNat default).Factors.getD k.toNat default).Atom.Items ((a.getD i.toNat default).Factors.getD k.toNat default).Atom.Op ((a.getD i.toNat default).Factors.getD k.toNat default).Atom.Bound).Args.length+(Atom.mk ((a.getD i.toNat default).Factors.getD k.toNat default).Atom.Kind ((a.getD i.toNat default).Factors.getD k.toNat default).Atom.Row ((a.getD i.toNat default).Factors.getD k.toNat default).Atom.Args ((a.getD i.toNat default).Factors.getD k.toNat default).Atom.Func ((a.getD i.toNat default).Factors.getD k.toNat default).Atom.Items ((a.getD i.toNat default).Factors.getD k.toNat default).Atom.Op ((a.getD i.toNat default).Factors.getD k.toNat default).Atom.Bound).Items.length) a limit deep (IntKind.i64.wrap (IntKind.i64.wrap (IntKind.i64.wrap (n_+Int.ofNat ((a.getD i.toNat default).Factors.getD k.toNat default).Atom.Items.length)+Int.ofNat ((a.getD i.toNat default).Factors.getD k.toNat default).Atom.Args.length)+Int.ofNat ((a.getD i.toNat default).Factors.getD k.toNat default).Atom.Bound.Text.size)) i k 0 (Atom.mk ((a.getD i.toNat default).Factors.getD k.toNat default).Atom.Kind ((a.getD i.toNat default).Factors.getD k.toNat default).Atom.Row ((a.getD i.toNat default).Factors.getD k.toNat default).Atom.Args ((a.getD i.toNat default).Factors.getD k.toNat default).Atom.Func ((a.getD i.toNat default).Factors.getD k.toNat default).Atom.Items ((a.getD i.toNat default).Factors.getD k.toNat default).Atom.Op ((a.getD i.toNat default).Factors.getD k.toNat default).Atom.Bound)) fun r5=>.bn (zrY zw ((r5.1.length+r5.2.1.toNat +r5.2.2.1.toNat +r5.2.2.2.1.toNat +r5.2.2.2.2.1.toNat +r5.2.2.2.2.2.1.toNat +Int.toNat 0+1)+(Atom.mk r5.2.2.2.2.2.2.Kind r5.2.2.2.2.2.2.Row r5.2.2.2.2.2.2.Args r5.2.2.2.2.2.2.Func r5.2.2.2.2.2.2.Items r5.2.2.2.2.2.2.Op r5.2.2.2.2.2.2.Bound).Args.length+(Atom.mk r5.2.2.2.2.2.2.Kind r5.2.2.2.2.2.2.Row r5.2.2.2.2.2.2.Args r5.2.2.2.2.2.2.Func r5.2.2.2.2.2.2.Items r5.2.2.2.2.2.2.Op r5.2.2.2.2.2.2.Bound).Items.length) r5.1 r5.2.1 r5.2.2.1 r5.2.2.2.1 r5.2.2.2.2.1 r5.2.2.2.2.2.1 0 (Atom.mk r5.2.2.2.2.2.2.Kind r5.2.2.2.2.2.2.Row r5.2.2.2.2.2.2.Args r5.2.2.2.2.2.2.Func r5.2.2.2.2.2.2.Items r5.2.2.2.2.2.2.Op r5.2.2.2.2.2.2.Bound)) fun r4=>.h ((r4.1),(r4.2.1),(r4.2.2.1),(r4.2.2.2.1),(r4.2.2.2.2.1),(IntKind.i64.wrap (r4.2.2.2.2.2+1)),()) ()) .d) .d) (.k (a,limit,deep,n_,i))) (.k (a,limit,deep,n_,i))) .d
def ztL (zw:List Term→Int→Int→Bool×Int) (x:ttTref05weight3) (y:Unit):Wy ttTref05weight3 (Unit) ttTref05weight4:=ztU zw x.1 x.2.1 x.2.2.1 x.2.2.2.1 x.2.2.2.2.1 x.2.2.2.2.2.1
def ztT (zw:List Term→Int→Int→Bool×Int) (n:Nat) (a:List Term) (limit:Int) (deep:Int) (n_:Int) (i:Int) (k:Int):Bool×ttTref05weight4:=zQ (ztL zw) default n (a,limit,deep,n_,i,k,()) ()
def zyA (r:ttTref05weight4):LTree ty:=.done (.exit 2) [.sl 42 r.1,.lit (.int .i64 r.2.1),.lit (.int .i64 r.2.2.1),.lit (.int .i64 r.2.2.2.1),.lit (.int .i64 r.2.2.2.2)] []
def zAy:LL ty ttTref05weight3:=zb (lSl 42) (zb (lInt .i64) (zb (lInt .i64) (zb (lInt .i64) (zb (lInt .i64) (zb (lInt .i64) zX)))))
def zAD:BL ty (Unit):=bNil
def ztX (zw:List Term→Int→Int→Bool×Int) (a:List Term) (limit:Int) (deep:Int) (n_:Int) (i:Int):Wy ttTref05weight5 (Unit) (Int):=.i (decide (i<Int.ofNat a.length)) (.i (decide (n_≤limit)) (.i (decide (0≤i)&&decide (i<Int.ofNat a.length)) (.bn (ztT zw (a.length+limit.toNat +deep.toNat +(IntKind.i64.wrap (IntKind.i64.wrap (n_+1)+Int.ofNat (a.getD i.toNat default).Factors.length)).toNat +i.toNat +Int.toNat 0+1) a limit deep (IntKind.i64.wrap (IntKind.i64.wrap (n_+1)+Int.ofNat (a.getD i.toNat default).Factors.length)) i 0) fun r8=>.h ((r8.1),(r8.2.1),(r8.2.2.1),(r8.2.2.2.1),(IntKind.i64.wrap (r8.2.2.2.2+1)),()) ()) .d) (.k n_)) (.k n_)
def ztG (zw:List Term→Int→Int→Bool×Int) (x:ttTref05weight5) (y:Unit):Wy ttTref05weight5 (Unit) (Int):=ztX zw x.1 x.2.1 x.2.2.1 x.2.2.2.1 x.2.2.2.2.1
def ztV (zw:List Term→Int→Int→Bool×Int) (n:Nat) (a:List Term) (limit:Int) (deep:Int) (n_:Int) (i:Int):Bool×Int:=zQ (ztG zw) default n (a,limit,deep,n_,i,()) ()
def zyZ (r:Int):LTree ty:=.done (.exit 0) [.lit (.int .i64 r)] []
def zAC:LL ty ttTref05weight5:=zb (lSl 42) (zb (lInt .i64) (zb (lInt .i64) (zb (lInt .i64) (zb (lInt .i64) zX))))
def zAB:BL ty (Unit):=bNil
def zxd (x:ttTref05weight0) (y:Atom×Unit):Nat:=((x.1.length+Int.toNat x.2.1+Int.toNat x.2.2.1+Int.toNat x.2.2.2.1+Int.toNat x.2.2.2.2.1+Int.toNat x.2.2.2.2.2.1+Int.toNat x.2.2.2.2.2.2.2.1+1)+y.1.Args.length+y.1.Items.length)
def zxa (x:ttTref05weight0) (y:Atom×Unit):Nat:=((x.1.length+Int.toNat x.2.1+Int.toNat x.2.2.1+Int.toNat x.2.2.2.1+Int.toNat x.2.2.2.2.1+Int.toNat x.2.2.2.2.2.1+Int.toNat x.2.2.2.2.2.2.2.1+1)+y.1.Args.length+y.1.Items.length)
def zyq (x:ttTref05weight3) (y:Unit):Nat:=(x.1.length+Int.toNat x.2.1+Int.toNat x.2.2.1+Int.toNat x.2.2.2.1+Int.toNat x.2.2.2.2.1+Int.toNat x.2.2.2.2.2.1+1)
def zyx (x:ttTref05weight5) (y:Unit):Nat:=(x.1.length+Int.toNat x.2.1+Int.toNat x.2.2.1+Int.toNat x.2.2.2.1+Int.toNat x.2.2.2.2.1+1)
def zlW (zw:List Term→Int→Int→Bool×Int):Cx ty:=mkCx base 136 [(52,(zo4 zw))] [] [(5,[(0,.keep),(1,.keep),(2,.keep),(7,.keep),(8,.keep)]),(9,[(0,.keep),(1,.keep),(2,.keep),(7,.keep),(8,.keep),(9,.keep)]),(14,[(0,.keep),(1,.keep),(2,.keep),(7,.keep),(8,.keep),(9,.keep),(10,.keep),(11,.keep)]),(18,[(0,.keep),(1,.keep),(2,.keep),(7,.keep),(8,.keep),(9,.keep),(10,.keep),(12,.keep)])] [(5,1,[(7,.keep)]),(9,3,[(0,.keep),(1,.keep),(2,.keep),(7,.keep),(8,.keep)]),(14,5,[(0,.keep),(1,.keep),(2,.keep),(7,.keep),(8,.keep),(9,.keep),(10,.keep)]),(18,7,[(0,.keep),(1,.keep),(2,.keep),(7,.keep),(8,.keep),(9,.keep)])] [(14,spW zyv zyP (zsP zw) default zxn zxd),(18,spW zyO zyU (zs0 zw) default zxc zxa),(9,spW zAy zAD (ztL zw) default zyA zyq),(5,spW zAC zAB (ztG zw) default zyZ zyx)] []
theorem zGZ (zw:List Term→Int→Int→Bool×Int):zbv (zlW zw) (lp (body Tryz.f52) 2):=zbc (id:=14) (V:=zyv) (B:=zyP) (W:=zsP zw) (z:=default) (tr:=zxn) (m:=zxd)
theorem zGS (zw:List Term→Int→Int→Bool×Int):zbv (zlW zw) (lp (body Tryz.f52) 3):=zbc (id:=18) (V:=zyO) (B:=zyU) (W:=zs0 zw) (z:=default) (tr:=zxc) (m:=zxa)
theorem zH2 (zw:List Term→Int→Int→Bool×Int):zbv (zlW zw) (lp (body Tryz.f52) 1):=zbc (id:=9) (V:=zAy) (B:=zAD) (W:=ztL zw) (z:=default) (tr:=zyA) (m:=zyq)
theorem zIC (zw:List Term→Int→Int→Bool×Int):zbv (zlW zw) (lp (body Tryz.f52) 0):=zbc (id:=5) (V:=zAC) (B:=zAB) (W:=ztG zw) (z:=default) (tr:=zyZ) (m:=zyx)
def zqh (zw:List Term→Int→Int→Bool×Int) (a:List Term) (limit:Int) (deep:Int):Wy0 (Int):=.i (deep==0) (.k (IntKind.i64.wrap (limit+1))) (.bn (ztV zw (a.length+limit.toNat +deep.toNat +Int.toNat 0+Int.toNat 0+1) a limit deep 0 0) fun r10=>.k r10)
def zo3 (zw:List Term→Int→Int→Bool×Int) (a:List Term) (limit:Int) (deep:Int):Bool×Int:=(zqh zw a limit deep).fin default
theorem zFv (zw:List Term→Int→Int→Bool×Int) (zJV:Sound Tryz.prog base 52 (zo4 zw)):Sound Tryz.prog base 52 (zo4 (zo3 zw)):=
 zH (cx':=(zlW zw)) zT zD zN (zG ⟨zJV,trivial⟩) Tryz.call52 Tryz.func52 (c:=body Tryz.f52) (by kernel_rfl) (zj (l:=[lp (body Tryz.f52) 0,lp (body Tryz.f52) 1,lp (body Tryz.f52) 2,lp (body Tryz.f52) 3]) (by kernel_rfl) ⟨zIC zw,zH2 zw,zGZ zw,zGS zw,trivial⟩) (sg:=⟨[.pure],[]⟩) (A:=zEI) (res:=zB4) (W:=fun x=>zqh zw x.1 x.2.1 x.2.2.1) (z:=default)
def zJC:Nat→(List Term→Int→Int→Bool×Int)
 | 0=>fun _ _ _=>(false,default)
 | n+1=>zo3 (zJC n)
def zmT (n:Nat):List Term→Int→Int→Bool×Int:=zJC n
theorem zAG (n:Nat):zmT (n+1)=zo3 (zmT n):=rfl
theorem zGc:∀ n,Sound Tryz.prog base 52 (zo4 (zmT n))
 | 0=>zbH Tryz.call52 (fun _=>rfl)
 | n+1=>by
  have ih:=zGc n
  exact zFv _ (ih)
def zBX:List Term→Int→Int→Bool×Int:=zmT 1000
def ref05_weight_spec:Ab.Spec ty:=zo4 zBX
theorem zIu:Sound Tryz.prog base 52 ref05_weight_spec:=(zGc 1000)
abbrev ttTref05Few0:=Int×List (List Term)×Int×Unit
def zBS (limit:Int) (l:List (List Term)) (i:Int):Wy ttTref05Few0 (Unit) (Bool⊕Unit):=.i (decide (i<Int.ofNat l.length)) (.i (decide (0≤i)&&decide (i<Int.ofNat l.length)) (.bn (zBX (l.getD i.toNat default) limit 12) fun r0=>.i (decide (r0>limit)) (.k (.inl false)) (.h (limit,l,(IntKind.i64.wrap (i+1)),()) ())) .d) (.k (.inr ()))
def zBz (x:ttTref05Few0) (y:Unit):Wy ttTref05Few0 (Unit) (Bool⊕Unit):=zBS x.1 x.2.1 x.2.2.1
def zCz (n:Nat) (limit:Int) (l:List (List Term)) (i:Int):Bool×(Bool⊕Unit):=zQ (zBz) (.inl default) n (limit,l,i,()) ()
def zGJ (r:Bool⊕Unit):LTree ty:=.ite (isL r) (.done .ret [.lit (.bool (getL r))] []) (.done (.exit 0) [] [])
def zHb:LL ty ttTref05Few0:=zb (lInt .i64) (zb (lSl 23) (zb (lInt .i64) zX))
def zHX:BL ty (Unit):=bNil
def zGi (x:ttTref05Few0) (y:Unit):Nat:=(Int.toNat x.1+x.2.1.length+Int.toNat x.2.2.1+1)
def zHN:Cx ty:=mkCx base 20 [(52,ref05_weight_spec)] [] [(2,[(0,.keep),(1,.keep),(5,.keep)])] [(2,1,[]),(2,0,[(4,.keep)])] [(2,spW zHb zHX (zBz) (.inl default) zGJ zGi)] []
theorem zNr:zbv zHN (lp (body Tryz.f12) 0):=zbc (id:=2) (V:=zHb) (B:=zHX) (W:=zBz) (z:=.inl default) (tr:=zGJ) (m:=zGi)
def zDS (limit:Int) (l:List (List Term)):Wy0 (Bool):=.bn (zCz (limit.toNat +l.length+Int.toNat 0+1) limit l 0) fun r2=>.i (isL r2) (.k (getL r2)) (.k true)
def zmA (limit:Int) (l:List (List Term)):Bool×Bool:=(zDS limit l).fin default
def zGn (r:Bool):ARes ty:=⟨[.pure (.lit (.bool r))],[]⟩
def zJN:AL base (Int×List (List Term)×Unit):=zf (zg (vInt .i64)) (zf (zg (vSl 23)) aNil)
def zxG:Ab.Spec ty:=zu zJN fun x=>((zmA x.1 x.2.1).1,zGn (zmA x.1 x.2.1).2)
theorem zCZ:Sound Tryz.prog base 12 zxG:=
 zH (cx':=zHN) zT zD zN (zG ⟨zIu,trivial⟩) Tryz.call12 Tryz.func12 (c:=body Tryz.f12) (by kernel_rfl) (zj (l:=[lp (body Tryz.f12) 0]) (by kernel_rfl) ⟨zNr,trivial⟩) (sg:=⟨[.pure],[]⟩) (A:=zJN) (res:=zGn) (W:=fun x=>zDS x.1 x.2.1) (z:=default)
abbrev ttTlaw05few0:=List Term×List Binding×Int×Unit
abbrev ttTlaw05few1:=Bool⊕(List Term×List Binding)
def zBs (a:List Term) (l:List Binding) (i:Int):Wy ttTlaw05few0 (Unit) ttTlaw05few1:=.i (decide (i<Int.ofNat l.length)) (.i (decide (0≤i)&&decide (i<Int.ofNat l.length)) (.bn (zmA 12 [(l.getD i.toNat default).To]) fun r0=>.i (!r0) (.k (.inl false)) (.h (a,l,(IntKind.i64.wrap (i+1)),()) ())) .d) (.k (.inr (a,l)))
def zBg (x:ttTlaw05few0) (y:Unit):Wy ttTlaw05few0 (Unit) ttTlaw05few1:=zBs x.1 x.2.1 x.2.2.1
def zBM (n:Nat) (a:List Term) (l:List Binding) (i:Int):Bool×ttTlaw05few1:=zQ (zBg) (.inl default) n (a,l,i,()) ()
def zGa (r:ttTlaw05few1):LTree ty:=.ite (isL r) (.done .ret [.lit (.bool (getL r))] []) (.done (.exit 0) [.sl 42 (getR r).1,.sl 69 (getR r).2] [])
def zG3:LL ty ttTlaw05few0:=zb (lSl 42) (zb (lSl 69) (zb (lInt .i64) zX))
def zIs:BL ty (Unit):=bNil
def zGH (x:ttTlaw05few0) (y:Unit):Nat:=(x.1.length+x.2.1.length+Int.toNat x.2.2.1+1)
def zHD:Cx ty:=mkCx base 28 [(12,zxG)] [] [(2,[(0,.keep),(1,.keep),(5,.keep)])] [(2,1,[(0,.keep),(1,.keep)]),(2,0,[(4,.keep)])] [(2,spW zG3 zIs (zBg) (.inl default) zGa zGH)] []
theorem zNo:zbv zHD (lp (body Tryz.f40) 0):=zbc (id:=2) (V:=zG3) (B:=zIs) (W:=zBg) (z:=.inl default) (tr:=zGa) (m:=zGH)
def zDI (a:List Term) (l:List Binding):Wy0 (Bool):=.bn (zBM (a.length+l.length+Int.toNat 0+1) a l 0) fun r3=>.i (isL r3) (.k (getL r3)) (.i (decide (Int.ofNat (getR r3).2.length≤4)) (.bn (zmA 30 [(getR r3).1]) fun r2=>.k r2) (.k false))
def zyI (a:List Term) (l:List Binding):Bool×Bool:=(zDI a l).fin default
def zF6 (r:Bool):ARes ty:=⟨[.pure (.lit (.bool r))],[]⟩
def zJR:AL base (List Term×List Binding×Unit):=zf (zg (vSl 42)) (zf (zg (vSl 69)) aNil)
def zEU:Ab.Spec ty:=zu zJR fun x=>((zyI x.1 x.2.1).1,zF6 (zyI x.1 x.2.1).2)
theorem zKA:Sound Tryz.prog base 40 zEU:=
 zH (cx':=zHD) zT zD zN (zG ⟨zCZ,trivial⟩) Tryz.call40 Tryz.func40 (c:=body Tryz.f40) (by kernel_rfl) (zj (l:=[lp (body Tryz.f40) 0]) (by kernel_rfl) ⟨zNo,trivial⟩) (sg:=⟨[.pure],[]⟩) (A:=zJR) (res:=zF6) (W:=fun x=>zDI x.1 x.2.1) (z:=default)
def zKk:Cx ty:=mkCx base0 41 [(13,znl),(16,znq),(18,zlx),(20,zlj),(22,zon)] [] [] [] [] []
def zwV (a:List Term) (b:List Term) (how:Int):Wy0 (List Term×Int):=.i (how.tmod (5:Int)==(0:Int)) (.bn (zmH a b) fun r0=>.k (r0.1,r0.2)) (.i (how.tmod (5:Int)==(1:Int)) (.bn (zmN a b) fun r1=>.k (r1.1,r1.2)) (.i (how.tmod (5:Int)==(2:Int)) (.bn (zkn a b) fun r2=>.k (r2.1,r2.2)) (.i (how.tmod (5:Int)==(3:Int)) (.bn (zku a) fun r3=>.k (r3.1,r3.2)) (.bn (zjJ a) fun r4=>.k (r4.1,r4.2)))))
def znZ (a:List Term) (b:List Term) (how:Int):Bool×(List Term×Int):=(zwV a b how).fin default
def zAv (r:List Term×Int):ARes ty:=⟨[.own 42 r.1,.pure (.lit (.int .i64 r.2))],[]⟩
def zC3:AL base0 (List Term×List Term×Int×Unit):=zf (zg (vSl 42)) (zf (zg (vSl 42)) (zf (zg (vInt .u8)) aNil))
def zzx:Ab.Spec ty:=zu zC3 fun x=>((znZ x.1 x.2.1 x.2.2.1).1,zAv (znZ x.1 x.2.1 x.2.2.1).2)
theorem zGV:Sound Tryz.prog base0 43 zzx:=
 zH (cx':=zKk) zT zh3 zN (zG ⟨zql,zqf,zoD.nodr,zoG.nodr,zts.nodr,trivial⟩) Tryz.call43 Tryz.func43 (c:=body Tryz.f43) (by kernel_rfl) (zj (l:=[]) (by kernel_rfl) trivial) (sg:=⟨[.own 42,.pure],[]⟩) (A:=zC3) (res:=zAv) (W:=fun x=>zwV x.1 x.2.1 x.2.2.1) (z:=default)
def zvQ:Cx ty:=mkCx base0 110 [(11,zBx),(12,zxG),(31,annotation_Valid_spec),(32,zlt),(40,zEU),(41,zlM),(43,zzx)] [] [] [] [] []
def zjz (a:List Term) (b:List Term) (l:List Binding) (how:Int):Wy0 (Bool):=.bn (zyI a l) fun r11=>.i (!r11) (.k true) (.bn (zmA 12 [a,b]) fun r10=>.i (!r10) (.k true) (.bn (zbP a) fun r9=>.i (!r9) (.k true) (.bn (zbP b) fun r8=>.i (!r8) (.k true) (.bn (zeb a l) fun r7=>.bn (zeb b l) fun r6=>.bn (zeb a []) fun r5=>.i (r5.2 != 0) (.k false) (.bn (zes r5.1 a) fun r4=>.i (!r4) (.k false) (.bn (znZ a b how) fun r3=>.bn (znZ r7.1 r6.1 how) fun r2=>.i (r7.2 != 0) (.k true) (.i (r6.2 != 0) (.k true) (.i (r3.2 != 0) (.k true) (.i (r2.2 != 0) (.k true) (.bn (zeb r3.1 l) fun r1=>.i (r1.2 != 0) (.k true) (.bn (zes r1.1 r2.1) fun r0=>.k r0)))))))))))
def zdV (a:List Term) (b:List Term) (l:List Binding) (how:Int):Bool×Bool:=(zjz a b l how).fin default
def ziE (r:Bool):ARes ty:=⟨[.pure (.lit (.bool r))],[]⟩
def zn4:AL base0 (List Term×List Term×List Binding×Int×Unit):=zf (zg (vSl 42)) (zf (zg (vSl 42)) (zf (zg (vSl 69)) (zf (zg (vInt .u8)) aNil)))
def zin:Ab.Spec ty:=zu zn4 fun x=>((zdV x.1 x.2.1 x.2.2.1 x.2.2.2.1).1,ziE (zdV x.1 x.2.1 x.2.2.1 x.2.2.2.1).2)
theorem ztS:Sound Tryz.prog base0 9 zin:=
 zH (cx':=zvQ) zT zh3 zN (zG ⟨zI9,zCZ.nodr,zcx.nodr,zoo.nodr,zKA.nodr,zp0,zGV,trivial⟩) Tryz.call9 Tryz.func9 (c:=body Tryz.f9) (by kernel_rfl) (zj (l:=[]) (by kernel_rfl) trivial) (sg:=⟨[.pure],[]⟩) (A:=zn4) (res:=ziE) (W:=fun x=>zjz x.1 x.2.1 x.2.2.1 x.2.2.2.1) (z:=default)
def trV (v:Value):TT:=.l [.i v.Kind,.i v.Int,trB v.Text]
mutual
def zdP:Atom→TT
 | ⟨k,r,a,f,i,o,b⟩=>.l [.i k,.i r.Table,.i r.Seq,.l (zqQ a),.i f,.l (zgp i),.i o,trV b]
def zmY:Factor→TT
 | ⟨x,e⟩=>.l [zdP x,.i e]
def zbw:List Factor→List TT
 | []=>[]
 | x::r=>zmY x::zbw r
def zsc:Term→TT
 | ⟨c,fs⟩=>.l [.l (zbw fs),.i c]
def zcZ:List Term→List TT
 | []=>[]
 | x::r=>zsc x::zcZ r
def zqQ:List (List Term)→List TT
 | []=>[]
 | x::r=>.l (zcZ x)::zqQ r
def zY:Weighted→TT
 | ⟨v,a⟩=>.l [trV v,.l (zcZ a)]
def zgp:List Weighted→List TT
 | []=>[]
 | x::r=>zY x::zgp r
end
theorem zqJ:∀ l,zbw l=l.map zmY
 | []=>by rw [zbw]; rfl
 | x::r=>by rw [zbw,zqJ r]; rfl
theorem zyr:∀ l,zcZ l=l.map zsc
 | []=>by rw [zcZ]; rfl
 | x::r=>by rw [zcZ,zyr r]; rfl
theorem zwA:∀ l,zqQ l=l.map fun x=>.l (zcZ x)
 | []=>by rw [zqQ]; rfl
 | x::r=>by rw [zqQ,zwA r]; rfl
theorem zkI:∀ l,zgp l=l.map zY
 | []=>by rw [zgp]; rfl
 | x::r=>by rw [zgp,zkI r]; rfl
theorem zzC:∀ a b:List UInt8,(a.map fun x=>TT.i (x.toNat:Int))=(b.map fun x=>TT.i (x.toNat:Int))→a=b
 | [],[]=>fun _=>rfl
 | [],_::_=>fun h=>by simp at h
 | _::_,[]=>fun h=>by simp at h
 | x::a,y::b=>fun h=>by
  simp only [List.map,List.cons.injEq,TT.i.injEq] at h
  rw [zzC a b h.2,UInt8.toNat_inj.1 (Int.ofNat.inj h.1)]
theorem zPO {a b:Value} (h:trV a=trV b):a=b:=by
 obtain ⟨k,n,s⟩:=a; obtain ⟨k',n',s'⟩:=b
 simp only [trV,trB,TT.l.injEq,List.cons.injEq,TT.i.injEq,and_true] at h
 obtain ⟨rfl,rfl,h⟩:=h
 have:=zzC _ _ h
 obtain ⟨⟨l⟩⟩:=s; obtain ⟨⟨l'⟩⟩:=s'
 simp only at this; subst this; rfl
mutual
theorem zK9:∀ a b:Atom,zdP a=zdP b→a=b
 | ⟨k,r,a,f,i,o,v⟩,⟨k',r',a',f',i',o',v'⟩=>fun h=>by
  simp only [zdP,TT.l.injEq,List.cons.injEq,TT.i.injEq,and_true] at h
  obtain ⟨rfl,h1,h2,h3,rfl,h4,rfl,h5⟩:=h
  obtain ⟨t,s⟩:=r; obtain ⟨t',s'⟩:=r'
  simp only at h1 h2; subst h1 h2
  rw [zKq a a' h3,zJy i i' h4,zPO h5]
theorem zOO:∀ a b:Factor,zmY a=zmY b→a=b
 | ⟨x,e⟩,⟨x',e'⟩=>fun h=>by
  simp only [zmY,TT.l.injEq,List.cons.injEq,TT.i.injEq,and_true] at h
  rw [zK9 x x' h.1,h.2]
theorem zz5:∀ a b:List Factor,zbw a=zbw b→a=b
 | [],[]=>fun _=>rfl
 | [],_::_=>fun h=>by simp [zbw] at h
 | _::_,[]=>fun h=>by simp [zbw] at h
 | x::a,y::b=>fun h=>by
  simp only [zbw,List.cons.injEq] at h
  rw [zOO x y h.1,zz5 a b h.2]
theorem zQH:∀ a b:Term,zsc a=zsc b→a=b
 | ⟨c,l⟩,⟨c',l'⟩=>fun h=>by
  simp only [zsc,TT.l.injEq,List.cons.injEq,TT.i.injEq,and_true] at h
  rw [zz5 l l' h.1,h.2]
theorem zzj:∀ a b:List Term,zcZ a=zcZ b→a=b
 | [],[]=>fun _=>rfl
 | [],_::_=>fun h=>by simp [zcZ] at h
 | _::_,[]=>fun h=>by simp [zcZ] at h
 | x::a,y::b=>fun h=>by
  simp only [zcZ,List.cons.injEq] at h
  rw [zQH x y h.1,zzj a b h.2]
theorem zKq:∀ a b:List (List Term),zqQ a=zqQ b→a=b
 | [],[]=>fun _=>rfl
 | [],_::_=>fun h=>by simp [zqQ] at h
 | _::_,[]=>fun h=>by simp [zqQ] at h
 | x::a,y::b=>fun h=>by
  simp only [zqQ,List.cons.injEq,TT.l.injEq] at h
  rw [zzj x y h.1,zKq a b h.2]
theorem zLe:∀ a b:Weighted,zY a=zY b→a=b
 | ⟨c,l⟩,⟨c',l'⟩=>fun h=>by
  simp only [zY,TT.l.injEq,List.cons.injEq,and_true] at h
  rw [zPO h.1,zzj l l' h.2]
theorem zJy:∀ a b:List Weighted,zgp a=zgp b→a=b
 | [],[]=>fun _=>rfl
 | [],_::_=>fun h=>by simp [zgp] at h
 | _::_,[]=>fun h=>by simp [zgp] at h
 | x::a,y::b=>fun h=>by
  simp only [zgp,List.cons.injEq] at h
  rw [zLe x y h.1,zJy a b h.2]
end
def zcI (P:List Term→Prop) (x:Atom):Prop:=
 (x.Args.length≤1000000∧x.Items.length≤1000000∧x.Bound.Text.size≤1000000000000)∧(∀ a∈x.Args,P a)∧∀ w∈x.Items,w.Value.Text.size≤1000000000000∧P w.Ann
def zfF (P:List Term→Prop) (l:List Factor):Prop:=l.length≤1000000∧∀ f∈l,zcI P f.Atom
def zm:Nat→List Term→Prop
 | 0,_=>False
 | n+1,a=>a.length≤1000000∧∀ t∈a,zfF (zm n) t.Factors
theorem zcI.imp {P Q:List Term→Prop} (h:∀ a,P a→Q a) {x:Atom} (hx:zcI P x):zcI Q x:=⟨hx.1,fun a ha=>h a (hx.2.1 a ha),fun w hw=>⟨(hx.2.2 w hw).1,h _ (hx.2.2 w hw).2⟩⟩
theorem zm.succ:∀ (n:Nat) (a:List Term),zm n a→zm (n+1) a
 | 0,_,h=>h.elim
 | n+1,a,h=>⟨h.1,fun t ht=>⟨(h.2 t ht).1,fun f hf=>((h.2 t ht).2 f hf).imp (zm.succ n)⟩⟩
theorem zm.mono {n m:Nat} {a:List Term} (h:zm n a) (hm:n≤m):zm m a:=by
 obtain ⟨k,rfl⟩:=Nat.exists_eq_add_of_le hm
 clear hm
 induction k with
 | zero=>exact h
 | succ k ih=>exact zm.succ _ _ ih
theorem zlA:∀ {l:List Factor},zoc l→∀ x∈l,zqc x
 | [],_,x,hx=>by cases hx
 | y::r,h,x,hx=>by
  unfold zoc at h
  rcases List.mem_cons.1 hx with rfl | hx
  ·exact h.1
  ·exact zlA h.2 x hx
theorem zoh:∀ {l:List Term},zfz l→∀ x∈l,zt5 x
 | [],_,x,hx=>by cases hx
 | y::r,h,x,hx=>by
  unfold zfz at h
  rcases List.mem_cons.1 hx with rfl | hx
  ·exact h.1
  ·exact zoh h.2 x hx
theorem ziy:∀ {l:List (List Term)},zqI l→∀ x∈l,zfz x∧x.length≤roomLen
 | [],_,x,hx=>by cases hx
 | y::r,h,x,hx=>by
  unfold zqI at h
  rcases List.mem_cons.1 hx with rfl | hx
  ·exact h.1
  ·exact ziy h.2 x hx
theorem zhd:∀ {l:List Weighted},znY l→∀ x∈l,wf46 x.Value∧zfz x.Ann∧x.Ann.length≤roomLen
 | [],_,x,hx=>by cases hx
 | y::r,h,x,hx=>by
  unfold znY at h
  rcases List.mem_cons.1 hx with rfl | hx
  ·have:=h.1; unfold zzf at this; exact ⟨this.1,this.2.1,this.2.2⟩
  ·exact zhd h.2 x hx
theorem zqw {t:Term} (h:zt5 t):wf2 t.Coeff∧zoc t.Factors∧t.Factors.length≤roomLen:=by
 unfold zt5 at h; exact ⟨h.1,h.2.1,h.2.2⟩
theorem zmZ {t:Factor} (h:zqc t):zfm t.Atom∧wf3 t.Exp:=by
 unfold zqc at h; exact h
theorem zmk {x:Atom} (h:zfm x):(zqI x.Args∧x.Args.length≤roomLen)∧(znY x.Items∧x.Items.length≤roomLen)∧wf46 x.Bound∧wf3 x.Kind∧wf25 x.Row∧wf3 x.Func∧wf3 x.Op:=by
 obtain ⟨k,r,a,f,i,o,b⟩:=x; unfold zfm at h; exact ⟨h.2.2.1,h.2.2.2.2.1,h.2.2.2.2.2.2,h.1,h.2.1,h.2.2.2.1,h.2.2.2.2.2.1⟩
theorem zim {z:Int} (h0: -4611686018427387904≤z) (h:z<4611686018427387904):IntKind.i64.wrap z=z:=zIX (by omega) (by omega)
mutual
def zxB:Atom→Nat
 | ⟨_,_,a,_,i,_,b⟩=>i.length+a.length+b.Text.size+zmR a+zjj i
def zf8:List Factor→Nat
 | []=>0
 | ⟨x,_⟩::r=>zxB x+zf8 r
def zei:List Term→Nat
 | []=>0
 | ⟨_,fs⟩::r=>1+fs.length+zf8 fs+zei r
def zmR:List (List Term)→Nat
 | []=>0
 | a::r=>zei a+zmR r
def zjj:List Weighted→Nat
 | []=>0
 | ⟨v,a⟩::r=>v.Text.size+zei a+zjj r
end
theorem zKP (x:Atom):zxB x=x.Items.length+x.Args.length+x.Bound.Text.size+zmR x.Args+zjj x.Items:=by cases x; rw [zxB]
theorem zDq (f:Factor) (r:List Factor):zf8 (f::r)=zxB f.Atom+zf8 r:=by cases f; rw [zf8]
theorem zDC (t:Term) (r:List Term):zei (t::r)=1+t.Factors.length+zf8 t.Factors+zei r:=by cases t; rw [zei]
theorem zHr (a:List Term) (r:List (List Term)):zmR (a::r)=zei a+zmR r:=by rw [zmR]
theorem zzS (w:Weighted) (r:List Weighted):zjj (w::r)=w.Value.Text.size+zei w.Ann+zjj r:=by cases w; rw [zjj]
theorem zPI:zmR []=0:=by rw [zmR]
theorem zOX:zjj []=0:=by rw [zjj]
theorem zMd:zf8 []=0:=by rw [zf8]
theorem zQ9:zei []=0:=by rw [zei]
section
variable (g:List Term→Int→Int→Bool×Int) (a:List Term) (limit d:Nat) (hl:limit≤1000) (hd:d≤100) (B:Nat) (hB:B≤1152921504606846976) (P:List Term→Prop)
include hl hd hB
theorem w14 (x:Atom) (i k:Int) (hlen:x.Args.length≤roomLen) (hg:∀ y∈x.Args,∀ l:Nat,l≤1000→∃ w:Nat,g y l d=(true,(w:Int))∧w≤B∧(w≤l→P y∧zei y≤w)):
  ∀ (fuel j n:Nat),x.Args.length<j+fuel→j≤x.Args.length→n≤2305843009213693952→∃ n':Nat,zso g fuel a limit (d+1:Nat) n i k j x=(true,(a,(limit:Int),((d+1:Nat):Int),(n':Int),i,k,x))∧n≤n'∧n'≤max n (limit+B)∧(n'≤limit→(∀ y∈x.Args.drop j,P y)∧n+zmR (x.Args.drop j)≤n')
 | 0,j,n,h1,h2,h3=>by omega
 | fuel+1,j,n,h1,h2,h3=>by
  show ∃ n':Nat,(zr6 g a limit (d+1:Nat) n i k j x).ev (fun x y=>zso g fuel x.1 x.2.1 x.2.2.1 x.2.2.2.1 x.2.2.2.2.1 x.2.2.2.2.2.1 x.2.2.2.2.2.2.2.1 y.1) (fun r=>(true,r)) (false,default)=_∧_
  unfold zr6
  have hml:roomLen=140737488351232:=rfl
  by_cases hj:j<x.Args.length
  ·by_cases hn:n≤limit
   ·have e1:IntKind.i64.wrap ((limit:Int) - (n:Int))=((limit - n:Nat):Int):=by rw [zim (by omega) (by omega)]; omega
    obtain ⟨w,hw,hwB,hwP⟩:=hg _ (zp hj) (limit - n) (by omega)
    have ed:IntKind.i64.wrap (((d+1:Nat):Int) - 1)=(d:Int):=by rw [zim (by omega) (by omega)]; omega
    simp only [Wy.ev_i,Wy.ev_k,Wy.ev_h,Wy.ev_bn,Wy.ev_d,tT,hj,zsp,hn,e1,ed,hw]
    have e3:IntKind.i64.wrap ((n:Int)+(w:Int))=((n+w:Nat):Int):=by rw [zim (by omega) (by omega)]; omega
    rw [e3,zM (by omega)]
    obtain ⟨n',h4,h5,h6,h7⟩:=w14 x i k hlen hg fuel (j+1) (n+w) (by omega) (by omega) (by omega)
    refine ⟨n',h4,by omega,by omega,fun hn'=> ?_⟩
    obtain ⟨h8,h9⟩:=h7 hn'
    obtain ⟨p1,p2⟩:=hwP (by omega)
    rw [zbm hj,zHr]
    refine ⟨fun y hy=> ?_,by omega⟩
    rcases List.mem_cons.1 hy with rfl | hy
    ·exact p1
    ·exact h8 y hy
   ·simp only [Wy.ev_i,Wy.ev_k,Wy.ev_h,Wy.ev_bn,Wy.ev_d,tT,hj,zsp,hn]
    exact ⟨n,rfl,Nat.le_refl _,by omega,fun h=>absurd h hn⟩
  ·simp only [Wy.ev_i,Wy.ev_k,Wy.ev_h,Wy.ev_bn,Wy.ev_d,tT,hj]
   exact ⟨n,rfl,Nat.le_refl _,by omega,fun _=>by rw [zcE hj,zPI]; exact ⟨fun y hy=>(by cases hy),Nat.le_refl _⟩⟩
theorem w18 (x:Atom) (i k:Int) (hlen:x.Items.length≤roomLen) (hg:∀ y∈x.Items,y.Value.Text.size≤roomLen∧∀ l:Nat,l≤1000→∃ w:Nat,g y.Ann l d=(true,(w:Int))∧w≤B∧(w≤l→P y.Ann∧zei y.Ann≤w)):
  ∀ (fuel j n:Nat),x.Items.length<j+fuel→j≤x.Items.length→n≤2305843009213693952→∃ n':Nat,zrY g fuel a limit (d+1:Nat) n i k j x=(true,(a,(limit:Int),((d+1:Nat):Int),(n':Int),i,k))∧n≤n'∧n'≤max n (limit+roomLen+B)∧(n'≤limit→(∀ y∈x.Items.drop j,y.Value.Text.size≤1000∧P y.Ann)∧n+zjj (x.Items.drop j)≤n')
 | 0,j,n,h1,h2,h3=>by omega
 | fuel+1,j,n,h1,h2,h3=>by
  show ∃ n':Nat,(zsf g a limit (d+1:Nat) n i k j x).ev (fun x y=>zrY g fuel x.1 x.2.1 x.2.2.1 x.2.2.2.1 x.2.2.2.2.1 x.2.2.2.2.2.1 x.2.2.2.2.2.2.2.1 y.1) (fun r=>(true,r)) (false,default)=_∧_
  unfold zsf
  have hml:roomLen=140737488351232:=rfl
  by_cases hj:j<x.Items.length
  ·by_cases hn:n≤limit
   ·have e1:IntKind.i64.wrap ((limit:Int) - (n:Int))=((limit - n:Nat):Int):=by rw [zim (by omega) (by omega)]; omega
    obtain ⟨ht,hgy⟩:=hg _ (zp hj)
    obtain ⟨w,hw,hwB,hwP⟩:=hgy (limit - n) (by omega)
    have ed:IntKind.i64.wrap (((d+1:Nat):Int) - 1)=(d:Int):=by rw [zim (by omega) (by omega)]; omega
    simp only [Wy.ev_i,Wy.ev_k,Wy.ev_h,Wy.ev_bn,Wy.ev_d,tT,hj,zsp,hn,e1,ed,hw]
    generalize hsz:(x.Items.getD j default).Value.Text.size=sz at *
    have e3:IntKind.i64.wrap (IntKind.i64.wrap ((n:Int)+(sz:Int))+(w:Int))=((n+sz+w:Nat):Int):=by rw [zim (z:=(n:Int)+(sz:Int)) (by omega) (by omega),zim (by omega) (by omega)]; omega
    rw [e3,zM (by omega)]
    obtain ⟨n',h4,h5,h6,h7⟩:=w18 x i k hlen hg fuel (j+1) (n+sz+w) (by omega) (by omega) (by omega)
    refine ⟨n',h4,by omega,by omega,fun hn'=> ?_⟩
    obtain ⟨h8,h9⟩:=h7 hn'
    obtain ⟨p1,p2⟩:=hwP (by omega)
    rw [zbm hj,zzS]
    refine ⟨fun y hy=> ?_,by omega⟩
    rcases List.mem_cons.1 hy with rfl | hy
    ·exact ⟨by omega,p1⟩
    ·exact h8 y hy
   ·simp only [Wy.ev_i,Wy.ev_k,Wy.ev_h,Wy.ev_bn,Wy.ev_d,tT,hj,zsp,hn]
    exact ⟨n,rfl,Nat.le_refl _,by omega,fun h=>absurd h hn⟩
  ·simp only [Wy.ev_i,Wy.ev_k,Wy.ev_h,Wy.ev_bn,Wy.ev_d,tT,hj]
   exact ⟨n,rfl,Nat.le_refl _,by omega,fun _=>by rw [zcE hj,zOX]; exact ⟨fun y hy=>(by cases hy),Nat.le_refl _⟩⟩
theorem w9 (i:Nat) (hi:i<a.length) (hla:(a.getD i default).Factors.length≤roomLen) (hg:∀ f∈(a.getD i default).Factors,f.Atom.Args.length≤roomLen∧f.Atom.Items.length≤roomLen∧f.Atom.Bound.Text.size≤roomLen∧(∀ y∈f.Atom.Args,∀ l:Nat,l≤1000→∃ w:Nat,g y l d=(true,(w:Int))∧w≤B∧(w≤l→P y∧zei y≤w))∧
   ∀ y∈f.Atom.Items,y.Value.Text.size≤roomLen∧∀ l:Nat,l≤1000→∃ w:Nat,g y.Ann l d=(true,(w:Int))∧w≤B∧(w≤l→P y.Ann∧zei y.Ann≤w)):
  ∀ (fuel k n:Nat),(a.getD i default).Factors.length<k+fuel→k≤(a.getD i default).Factors.length→n≤2305843009213693952→∃ n':Nat,ztT g fuel a limit (d+1:Nat) n i k=(true,(a,(limit:Int),((d+1:Nat):Int),(n':Int),(i:Int)))∧n≤n'∧n'≤max n (limit+4*roomLen+B)∧
   (n'≤limit→(∀ f∈(a.getD i default).Factors.drop k,(f.Atom.Args.length≤1000∧f.Atom.Items.length≤1000∧f.Atom.Bound.Text.size≤1000)∧(∀ y∈f.Atom.Args,P y)∧∀ y∈f.Atom.Items,y.Value.Text.size≤1000∧P y.Ann)∧n+zf8 ((a.getD i default).Factors.drop k)≤n')
 | 0,k,n,h1,h2,h3=>by omega
 | fuel+1,k,n,h1,h2,h3=>by
  show ∃ n':Nat,(ztU g a limit (d+1:Nat) n i k).ev (fun x y=>ztT g fuel x.1 x.2.1 x.2.2.1 x.2.2.2.1 x.2.2.2.2.1 x.2.2.2.2.2.1) (fun r=>(true,r)) (false,default)=_∧_
  unfold ztU
  have hml:roomLen=140737488351232:=rfl
  by_cases hk:k<(a.getD i default).Factors.length
  ·by_cases hn:n≤limit
   ·simp only [Wy.ev_i,Wy.ev_k,Wy.ev_h,Wy.ev_bn,Wy.ev_d,tT,hi,hk,zsp,hn,Atom.eta]
    obtain ⟨ha1,ha2,ha3,hgA,hgI⟩:=hg _ (zp hk)
    generalize hf:((a.getD i default).Factors.getD k default)=f at *
    have e0:IntKind.i64.wrap (IntKind.i64.wrap (IntKind.i64.wrap ((n:Int)+(f.Atom.Items.length:Int))+(f.Atom.Args.length:Int))+(f.Atom.Bound.Text.size:Int))=((n+f.Atom.Items.length+f.Atom.Args.length+f.Atom.Bound.Text.size:Nat):Int):=by
     rw [zim (z:=(n:Int)+(f.Atom.Items.length:Int)) (by omega) (by omega),zim (z:=(n:Int)+(f.Atom.Items.length:Int)+(f.Atom.Args.length:Int)) (by omega) (by omega),zim (by omega) (by omega)]; omega
    rw [e0]
    obtain ⟨n1,q1,q2,q3,q4⟩:=w14 g a limit d hl hd B hB P f.Atom i k ha1 hgA (a.length+limit+(d+1)+((n+f.Atom.Items.length+f.Atom.Args.length+f.Atom.Bound.Text.size:Nat):Int).toNat +i+k+Int.toNat 0+1+f.Atom.Args.length+f.Atom.Items.length) 0 (n+f.Atom.Items.length+f.Atom.Args.length+f.Atom.Bound.Text.size) (by omega) (by omega) (by omega)
    rw [show ((0:Nat):Int)=(0:Int) from rfl] at q1
    rw [q1]
    simp only [cond_true,Atom.eta,Int.toNat_natCast]
    obtain ⟨n2,r1,r2,r3,r4⟩:=w18 g a limit d hl hd B hB P f.Atom i k ha2 hgI (a.length+limit+(d+1)+n1+i+k+Int.toNat 0+1+f.Atom.Args.length+f.Atom.Items.length) 0 n1 (by omega) (by omega) (by omega)
    rw [show ((0:Nat):Int)=(0:Int) from rfl] at r1
    rw [r1]
    simp only [cond_true]
    rw [zM (by omega)]
    obtain ⟨n',h4,h5,h6,h7⟩:=w9 i hi hla hg fuel (k+1) n2 (by omega) (by omega) (by omega)
    refine ⟨n',h4,by omega,by omega,fun hn'=> ?_⟩
    obtain ⟨h8,h9⟩:=h7 hn'
    obtain ⟨q5,q6⟩:=q4 (by omega)
    obtain ⟨r5,r6⟩:=r4 (by omega)
    rw [List.drop_zero] at q5 q6 r5 r6
    rw [zbm hk,zDq,hf,zKP]
    refine ⟨fun y hy=> ?_,by omega⟩
    rcases List.mem_cons.1 hy with rfl | hy
    ·exact ⟨⟨by omega,by omega,by omega⟩,q5,r5⟩
    ·exact h8 y hy
   ·simp only [Wy.ev_i,Wy.ev_k,Wy.ev_h,Wy.ev_bn,Wy.ev_d,tT,hi,hk,zsp,hn]
    exact ⟨n,rfl,Nat.le_refl _,by omega,fun h=>absurd h hn⟩
  ·simp only [Wy.ev_i,Wy.ev_k,Wy.ev_h,Wy.ev_bn,Wy.ev_d,tT,hi,hk]
   exact ⟨n,rfl,Nat.le_refl _,by omega,fun _=>by rw [zcE hk,zMd]; exact ⟨fun y hy=>(by cases hy),Nat.le_refl _⟩⟩
theorem w5 (hla:∀ t∈a,t.Factors.length≤roomLen) (hg:∀ t∈a,∀ f∈t.Factors,f.Atom.Args.length≤roomLen∧f.Atom.Items.length≤roomLen∧f.Atom.Bound.Text.size≤roomLen∧(∀ y∈f.Atom.Args,∀ l:Nat,l≤1000→∃ w:Nat,g y l d=(true,(w:Int))∧w≤B∧(w≤l→P y∧zei y≤w))∧
   ∀ y∈f.Atom.Items,y.Value.Text.size≤roomLen∧∀ l:Nat,l≤1000→∃ w:Nat,g y.Ann l d=(true,(w:Int))∧w≤B∧(w≤l→P y.Ann∧zei y.Ann≤w)) (hlen:a.length≤roomLen):
  ∀ (fuel i n:Nat),a.length<i+fuel→i≤a.length→n≤2305843009213693952→∃ n':Nat,ztV g fuel a limit (d+1:Nat) n i=(true,(n':Int))∧n≤n'∧n'≤max n (limit+6*roomLen+B)∧
   (n'≤limit→(n+(a.length - i)≤n'∧n+zei (a.drop i)≤n')∧∀ t∈a.drop i,t.Factors.length≤1000∧∀ f∈t.Factors,(f.Atom.Args.length≤1000∧f.Atom.Items.length≤1000∧f.Atom.Bound.Text.size≤1000)∧(∀ y∈f.Atom.Args,P y)∧∀ y∈f.Atom.Items,y.Value.Text.size≤1000∧P y.Ann)
 | 0,i,n,h1,h2,h3=>by omega
 | fuel+1,i,n,h1,h2,h3=>by
  show ∃ n':Nat,(ztX g a limit (d+1:Nat) n i).ev (fun x y=>ztV g fuel x.1 x.2.1 x.2.2.1 x.2.2.2.1 x.2.2.2.2.1) (fun r=>(true,r)) (false,default)=_∧_
  unfold ztX
  have hml:roomLen=140737488351232:=rfl
  by_cases hi:i<a.length
  ·by_cases hn:n≤limit
   ·simp only [Wy.ev_i,Wy.ev_k,Wy.ev_h,Wy.ev_bn,Wy.ev_d,tT,hi,zsp,hn]
    have hla':=hla _ (zp hi)
    have e0:IntKind.i64.wrap (IntKind.i64.wrap ((n:Int)+1)+((a.getD i default).Factors.length:Int))=((n+1+(a.getD i default).Factors.length:Nat):Int):=by
     rw [zM (by omega),zim (by omega) (by omega)]; omega
    rw [e0]
    obtain ⟨n1,q1,q2,q3,q4⟩:=w9 g a limit d hl hd B hB P i hi hla' (hg _ (zp hi)) (a.length+limit+(d+1)+((n+1+(a.getD i default).Factors.length:Nat):Int).toNat +i+Int.toNat 0+1) 0 (n+1+(a.getD i default).Factors.length) (by omega) (by omega) (by omega)
    rw [show ((0:Nat):Int)=(0:Int) from rfl] at q1
    rw [q1]
    simp only [cond_true]
    rw [zM (by omega)]
    obtain ⟨n',h4,h5,h6,h7⟩:=w5 hla hg hlen fuel (i+1) n1 (by omega) (by omega) (by omega)
    refine ⟨n',h4,by omega,by omega,fun hn'=> ?_⟩
    obtain ⟨⟨h8,h10⟩,h9⟩:=h7 hn'
    obtain ⟨q5,q6⟩:=q4 (by omega)
    rw [List.drop_zero] at q5 q6
    rw [zbm hi,zDC]
    refine ⟨⟨by omega,by omega⟩,fun y hy=> ?_⟩
    rcases List.mem_cons.1 hy with rfl | hy
    ·exact ⟨by omega,q5⟩
    ·exact h9 y hy
   ·simp only [Wy.ev_i,Wy.ev_k,Wy.ev_h,Wy.ev_bn,Wy.ev_d,tT,hi,zsp,hn]
    exact ⟨n,rfl,Nat.le_refl _,by omega,fun h=>absurd h hn⟩
  ·simp only [Wy.ev_i,Wy.ev_k,Wy.ev_h,Wy.ev_bn,Wy.ev_d,tT,hi]
   exact ⟨n,rfl,Nat.le_refl _,by omega,fun _=>by rw [zcE hi,zQ9]; exact ⟨⟨by omega,Nat.le_refl _⟩,fun y hy=>(by cases hy)⟩⟩
end
theorem zMR:∀ (d N:Nat),d<N→d≤12→∀ (l:Nat),l≤1000→∀ a,zfz a→a.length≤roomLen→∃ w:Nat,zmT N a l d=(true,(w:Int))∧w≤(d+1)*4503599627370496∧(w≤l→zm d a∧zei a≤w)
 | _,0,h,_,_,_,_,_,_=>by omega
 | 0,N+1,_,_,l,hl,a,hw,hlen=>by
  rw [zAG]
  unfold zo3 zqh
  refine ⟨l+1, ?_,by omega,fun h=>by omega⟩
  simp only [Wy.fin_i,Wy.fin_k]
  rw [zM (by omega)]; rfl
 | d+1,N+1,hN,hd,l,hl,a,hw,hlen=>by
  rw [zAG]
  unfold zo3 zqh
  have hml:roomLen=140737488351232:=rfl
  have ih:=fun y (h1:zfz y) (h2:y.length≤roomLen) l hl=>zMR d N (by omega) (by omega) l hl y h1 h2
  have e0:(((d+1:Nat):Int)==(0:Int))=false:=by
   rw [beq_eq_false_iff_ne]; omega
  obtain ⟨n',h1,h2,h3,h4⟩:=w5 (zmT N) a l d hl (by omega) ((d+1)*4503599627370496) (by omega) (zm d) (fun t ht=>(zqw (zoh hw t ht)).2.2) (fun t ht f hf=>by
   have hx:=zmk (zmZ (zlA (zqw (zoh hw t ht)).2.1 f hf)).1
   refine ⟨hx.1.2,hx.2.1.2,hx.2.2.1.2.2,fun y hy l hl=> ?_,fun y hy=> ?_⟩
   ·have:=ziy hx.1.1 y hy
    exact ih y this.1 this.2 l hl
   ·have:=zhd hx.2.1.1 y hy
    exact ⟨this.1.2.2,fun l hl=>ih y.Ann this.2.1 this.2.2 l hl⟩) hlen (a.length+l+(d+1)+Int.toNat 0+Int.toNat 0+1) 0 0 (by omega) (by omega) (by omega)
  rw [show ((0:Nat):Int)=(0:Int) from rfl] at h1
  refine ⟨n', ?_,by omega,fun hn=> ?_⟩
  ·simp only [Wy.fin_i,Wy.fin_k,Wy.fin_bn,e0,cond_false,Int.toNat_natCast,h1,cond_true]
  ·obtain ⟨⟨h5,h12⟩,h6⟩:=h4 hn
   rw [List.drop_zero] at h12
   refine ⟨⟨by omega,fun t ht=> ?_⟩,by omega⟩
   obtain ⟨h7,h8⟩:=h6 t (by simpa using ht)
   refine ⟨by omega,fun f hf=> ?_⟩
   obtain ⟨h9,h10,h11⟩:=h8 f hf
   exact ⟨⟨by omega,by omega,by omega⟩,h10,fun w hw=>⟨by have:=(h11 w hw).1; omega,(h11 w hw).2⟩⟩
theorem zPf (limit:Nat) (hl:limit≤1000) (l:List (List Term)) (hll:l.length≤1000) (hw:∀ a∈l,zfz a∧a.length≤roomLen):∀ (n i:Nat),l.length<i+n→i≤l.length→∃ r,zCz n limit l i=(true,r)∧((r=.inl false)∨(r=.inr ()∧∀ a∈l.drop i,zm 12 a∧zei a≤limit))
 | 0,i,h1,h2=>by omega
 | n+1,i,h1,h2=>by
  show ∃ r,(zBS limit l i).ev (fun x y=>zCz n x.1 x.2.1 x.2.2.1) (fun r=>(true,r)) (false,.inl default)=(true,r)∧_
  unfold zBS
  by_cases hi:i<l.length
  ·obtain ⟨w,q1,q2,q3⟩:=zMR 12 1000 (by omega) (by omega) limit hl _ (hw _ (zp hi)).1 (hw _ (zp hi)).2
   have q1':zBX (l.getD i default) (limit:Int) 12=(true,(w:Int)):=q1
   simp only [Wy.ev_i,Wy.ev_k,Wy.ev_h,Wy.ev_bn,Wy.ev_d,tT,hi,q1',zmW]
   by_cases hg:limit<w
   ·simp only [hg,decide_true,cond_true]
    exact ⟨_,rfl,.inl rfl⟩
   ·simp only [hg,decide_false,cond_false]
    rw [zM (by omega)]
    obtain ⟨r,h3,h4⟩:=zPf limit hl l hll hw n (i+1) (by omega) (by omega)
    refine ⟨r,h3, ?_⟩
    rcases h4 with h4 | ⟨h4,h5⟩
    ·exact .inl h4
    ·refine .inr ⟨h4,fun a ha=> ?_⟩
     rw [zbm hi] at ha
     rcases List.mem_cons.1 ha with rfl | ha
     ·exact ⟨(q3 (by omega)).1,by have:=(q3 (by omega)).2; omega⟩
     ·exact h5 a ha
  ·simp only [Wy.ev_i,Wy.ev_k,Wy.ev_h,Wy.ev_bn,Wy.ev_d,tT,hi]
   exact ⟨_,rfl,.inr ⟨rfl,fun a ha=>by rw [zcE hi] at ha; cases ha⟩⟩
theorem zNL (limit:Nat) (hl:limit≤1000) (l:List (List Term)) (hll:l.length≤1000) (hw:∀ a∈l,zfz a∧a.length≤roomLen):∃ b,zmA limit l=(true,b)∧(b=true→∀ a∈l,zm 12 a∧zei a≤limit):=by
 unfold zmA zDS
 obtain ⟨r,h1,h2⟩:=zPf limit hl l hll hw (limit+l.length+Int.toNat 0+1) 0 (by omega) (by omega)
 rw [show ((0:Nat):Int)=(0:Int) from rfl] at h1
 rw [Wy.fin_bn]
 simp only [Int.toNat_natCast,h1,cond_true]
 rcases h2 with rfl | ⟨rfl,h2⟩
 ·exact ⟨false,rfl,fun h=>by cases h⟩
 ·exact ⟨true,rfl,fun _ a ha=>h2 a (by simpa using ha)⟩
end Go.Proofs.YtnolcogncjijpaaGreatDoor
/- What lies inside lists of terms and factors: fuel for loops. -/
namespace Go.Proofs.YtnolcogncjijpaaGreatDoor
def szFs:List Factor→Nat
 | []=>0
 | f::r=>f.Exp.toNat +f.Atom.Args.length+f.Atom.Items.length+1+szFs r
def szTs:List Term→Nat
 | []=>0
 | t::r=>szFs t.Factors+1+szTs r
end Go.Proofs.YtnolcogncjijpaaGreatDoor
namespace Go.Proofs.YtnolcogncjijpaaGreatDoor
open Go Go.Ab
end Go.Proofs.YtnolcogncjijpaaGreatDoor
end
