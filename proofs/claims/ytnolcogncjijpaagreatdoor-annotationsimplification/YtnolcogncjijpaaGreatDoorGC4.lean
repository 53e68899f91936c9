/- Texts of this claim, joined (the program, its functions in plain words, and what they compute). -/
import Derived.WalkKit
import Derived.WalkSpells
import Derived.Test.YtnolcogncjijpaaGreatDoorGC1
import Derived.Test.YtnolcogncjijpaaGreatDoorGA2
import Derived.Test.YtnolcogncjijpaaGreatDoorGC3
import Derived.Test.YtnolcogncjijpaaGreatDoorGC2
import Derived.Test.YtnolcogncjijpaaGreatDoorGB1
import Derived.Test.YtnolcogncjijpaaGreatDoorGA3
set_option autoImplicit false
set_option linter.unusedVariables false
set_option linter.unusedSectionVars false
set_option linter.unusedSimpArgs false
set_option maxRecDepth 1000000
set_option maxHeartbeats 0
noncomputable section
namespace Go.Proofs.YtnolcogncjijpaaGreatDoor
open Go Go.Ab
def zDz:Cx ty:=mkCx base0 8 [(31,annotation_Valid_spec),(109,annotation_text_spec)] [] [] [] [] []
def zwb (a:List Term):Wy0 (ByteArray):=.bn (zbK a) fun r1=>.i (!r1) (.k (ByteArray.mk #[])) (.bn (zBV a) fun r0=>.k r0)
def zzb (a:List Term):Bool×ByteArray:=(zwb a).fin default
def zum (r:ByteArray):ARes ty:=⟨[.pure (.lit (.string r))],[]⟩
def zv0:AL base0 (List Term×Unit):=zf (zg (vSl 42)) aNil
def ztd:Ab.Spec ty:=zr zv0 fun x=>((zzb x.1).1,zum (zzb x.1).2)
theorem zBi:Sound Tryz.prog base0 51 ztd:=
 zD (cx':=zDz) zQ zim zL (zF ⟨zcm.nodr,zC3,trivial⟩) Tryz.call51 Tryz.func51 (c:=body Tryz.f51) (by kernel_rfl) (zj (l:=[]) (by kernel_rfl) trivial) (sg:=⟨[.pure],[]⟩) (A:=zv0) (res:=zum) (W:=fun x=>zwb x.1) (z:=default)
def zth (r:List Term×Int):ARes ty:=⟨[.own 42 r.1,.pure (.lit (.int .i64 r.2))],[]⟩
def zvB:AL base0 (List Term×((List Binding×Unit)×Unit)×Unit):=zf (zg (vSl 42)) (zf (zg (vFn 93 (zrV (vBox (zrV (vSl 69) vNil)) vNil))) aNil)
def zi3 (F:List Term→List Binding→Bool×(List Term×Int)):Ab.Spec ty:=zr zvB fun x=>((F x.1 x.2.1.1.1).1,zth (F x.1 x.2.1.1.1).2)
def zp3 (r:List Term×Int):ARes ty:=⟨[.own 42 r.1,.pure (.lit (.int .i64 r.2))],[]⟩
def zrx:AL base0 (Atom×((List Binding×Unit)×Unit)×Unit):=zf (zg (vAgg 48)) (zf (zg (vFn 93 (zrV (vBox (zrV (vSl 69) vNil)) vNil))) aNil)
def zjd (F:Atom→List Binding→Bool×(List Term×Int)):Ab.Spec ty:=zr zrx fun x=>((F x.1 x.2.1.1.1).1,zp3 (F x.1 x.2.1.1.1).2)
def zvC:Cx ty:=mkCx base 8 [] [] [] [] [] []
def zn8 (b:Binding) (p1:RowID):Wy0 (Bool):=.k (b.Row.Table==p1.Table&&(b.Row.Seq==p1.Seq&&true))
def zkA (b:Binding) (p1:RowID):Bool×Bool:=(zn8 b p1).fin default
def zm8 (r:Bool):ARes ty:=⟨[.pure (.lit (.bool r))],[]⟩
def zn9:AL base (Binding×RowID×Unit):=zf (zg (vAgg 69)) (zf (zg (zId 25)) aNil)
def zij:Ab.Spec ty:=zr zn9 fun x=>((zkA x.1 x.2.1).1,zm8 (zkA x.1 x.2.1).2)
theorem zmc:Sound Tryz.prog base 95 zij:=
 zD (cx':=zvC) zQ zB zL (zF trivial) Tryz.call95 Tryz.func95 (c:=body Tryz.f95) (by kernel_rfl) (zj (l:=[]) (by kernel_rfl) trivial) (sg:=⟨[.pure],[]⟩) (A:=zn9) (res:=zm8) (W:=fun x=>zn8 x.1 x.2.1) (z:=default)
def zGf:Cx ty:=mkCx base 9 [(62,zfl),(69,zog)] [] [] [] [] []
def zAR (id:RowID):Wy0 (List Term):=.bn (zmC id) fun r0=>.i (!r0) (.k []) (.k ((zem (Atom.mk 0 id [] 0 [] 0 (Value.mk 0 0 (ByteArray.mk #[])))).2))
def zwX (id:RowID):Bool×List Term:=(zAR id).fin default
def zxk (r:List Term):ARes ty:=⟨[.own 42 r],[]⟩
def zAh:AL base (RowID×Unit):=zf (zg (vAgg 25)) aNil
def zqj:Ab.Spec ty:=zr zAh fun x=>((zwX x.1).1,zxk (zwX x.1).2)
theorem zuW:Sound Tryz.prog base 27 zqj:=
 zD (cx':=zGf) zQ zB zL (zF ⟨zhm,zrA,trivial⟩) Tryz.call27 Tryz.func27 (c:=body Tryz.f27) (by kernel_rfl) (zj (l:=[]) (by kernel_rfl) trivial) (sg:=⟨[.own 42],[]⟩) (A:=zAh) (res:=zxk) (W:=fun x=>zAR x.1) (z:=default)
abbrev ttTslicesIndexFuncLapiBindingapiBindings20:=List Binding×(RowID×Unit)×Int×Int×Unit
def zm2 (s:List Binding) (f:RowID) (t7:Int) (t8:Int):Wy ttTslicesIndexFuncLapiBindingapiBindings20 (Unit) (Int⊕Unit):=.i (decide (t8<t7)) (.i (decide (0≤t8)&&decide (t8<Int.ofNat s.length)) (.i ((zkA (s.getD t8.toNat default) f).2) (.k (.inl t8)) (.h (s,(f,()),t7,(IntKind.i64.wrap (t8+1)),()) ())) .d) (.k (.inr ()))
def zdQ (x:ttTslicesIndexFuncLapiBindingapiBindings20) (y:Unit):Wy ttTslicesIndexFuncLapiBindingapiBindings20 (Unit) (Int⊕Unit):=zm2 x.1 x.2.1.1 x.2.2.1 x.2.2.2.1
def zm6 (n:Nat) (s:List Binding) (f:RowID) (t7:Int) (t8:Int):Bool×(Int⊕Unit):=zN (zdQ) (.inl default) n (s,(f,()),t7,t8,()) ()
def zgy (r:Int⊕Unit):LTree ty:=.ite (isL r) (.done .ret [.lit (.int .i64 (getL r))] []) (.done (.exit 0) [] [])
def zg0:LL ty ttTslicesIndexFuncLapiBindingapiBindings20:=za (lSl 69) (za (lFn 95 (za (zx5 (ztB (fun x=>(⟨x.1,x.2.1⟩:RowID)) (fun x=>(x.Table,x.Seq,())) (fun _=>rfl) (za (lInt .i64) (za (lInt .i64) zS))) 0) zS)) (za (lInt .i64) (za (lInt .i64) zS)))
def zgU:BL ty (Unit):=bNil
def zgQ (x:ttTslicesIndexFuncLapiBindingapiBindings20) (y:Unit):Nat:=(x.1.length+Int.toNat x.2.2.1+Int.toNat x.2.2.2.1+1)
def zg5:Cx ty:=mkCx base 19 [(95,zij)] [] [(2,[(0,.keep),(1,.keep),(7,.keep),(8,.keep)])] [(2,1,[]),(2,0,[(4,.keep)])] [(2,spW zg0 zgU (zdQ) (.inl default) zgy zgQ)] []
theorem zmL:zbp zg5 (lp (body Tryz.f94) 0):=zY (id:=2) (V:=zg0) (B:=zgU) (W:=zdQ) (z:=.inl default) (tr:=zgy) (m:=zgQ)
def zhy (s:List Binding) (f:RowID):Wy0 (Int):=.bn (zm6 (s.length+(Int.ofNat s.length).toNat +Int.toNat 0+1) s f (Int.ofNat s.length) 0) fun r0=>.i (isL r0) (.k (getL r0)) (.k (-1:Int))
def zd3 (s:List Binding) (f:RowID):Bool×Int:=(zhy s f).fin default
def zgP (r:Int):ARes ty:=⟨[.pure (.lit (.int .i64 r))],[]⟩
def zhg:AL base (List Binding×(RowID×Unit)×Unit):=zf (zg (vSl 69)) (zf (zg (vFn 95 (zrV (zId 25) vNil))) aNil)
def zgb:Ab.Spec ty:=zr zhg fun x=>((zd3 x.1 x.2.1.1).1,zgP (zd3 x.1 x.2.1.1).2)
theorem zlX:Sound Tryz.prog base 94 zgb:=
 zD (cx':=zg5) zQ zB zL (zF ⟨zmc,trivial⟩) Tryz.call94 Tryz.func94 (c:=body Tryz.f94) (by kernel_rfl) (zj (l:=[lp (body Tryz.f94) 0]) (by kernel_rfl) ⟨zmL,trivial⟩) (sg:=⟨[.pure],[]⟩) (A:=zhg) (res:=zgP) (W:=fun x=>zhy x.1 x.2.1.1) (z:=default)
def zyg:Cx ty:=mkCx base 18 [(27,zqj),(61,annotation_copied_spec),(94,zgb),(95,zij)] [] [] [] [] []
def zp6 (id:RowID) (p1:List Binding):Wy0 (List Term):=.bn (zd3 p1 id) fun r2=>.i (decide (r2≥0)) (.i (decide (0≤r2)&&decide (r2<Int.ofNat p1.length)) (.bn (zfv (p1.getD r2.toNat default).To) fun r0=>.k r0) .d) (.bn (zwX id) fun r1=>.k r1)
def zmR (id:RowID) (p1:List Binding):Bool×List Term:=(zp6 id p1).fin default
def zou (r:List Term):ARes ty:=⟨[.own 42 r],[]⟩
def zp4:AL base (RowID×(List Binding×Unit)×Unit):=zf (zg (vAgg 25)) (zf (zg (vBox (zrV (vSl 69) vNil))) aNil)
def zgo:Ab.Spec ty:=zr zp4 fun x=>((zmR x.1 x.2.1.1).1,zou (zmR x.1 x.2.1.1).2)
theorem zja:Sound Tryz.prog base 93 zgo:=
 zD (cx':=zyg) zQ zB zL (zF ⟨zuW,zhn,zlX,zmc,trivial⟩) Tryz.call93 Tryz.func93 (c:=body Tryz.f93) (by kernel_rfl) (zj (l:=[]) (by kernel_rfl) trivial) (sg:=⟨[.own 42],[]⟩) (A:=zp4) (res:=zou) (W:=fun x=>zp6 x.1 x.2.1.1) (z:=default)
abbrev ttTannotationreplace0:=((List Binding×Unit)×Unit)×Unit×Unit×List Term×Int×List Term×Int×Int×List Factor×Int×Int×Int×Int×Unit
abbrev ttTannotationreplace1:=List Term×List Term×Unit
abbrev ttTannotationreplace2:=List Binding×Int×List Term×Int×Int×List Factor×Int×Int×List Term×List Term
abbrev ttTannotationreplace3:=((List Binding×Unit)×Unit)×Unit×Unit×List Term×Int×Int×List Factor×Int×Int×Unit
abbrev ttTannotationreplace4:=Int⊕(List Binding×List Term×Int×Int×List Term×List Term)
abbrev ttTannotationreplace5:=((List Binding×Unit)×Unit)×Unit×List Term×Int×Int×Unit
abbrev ttTannotationreplace6:=List Term×Unit
abbrev ttTannotationreplace7:=Int⊕List Term
def zAt (zi:Atom→List Binding→Bool×(List Term×Int)) (to:List Binding) (b:List Term) (e:Int) (t16:List Term) (t17:Int) (t18:Int) (t26:List Factor) (t27:Int) (t28:Int) (t40:Int) (t41:Int) (sum:List Term) (product:List Term):Wy ttTannotationreplace0 ttTannotationreplace1 ttTannotationreplace2:=.i (decide (t41<t40)) (.i (e==0) (.bn (zmr product b) fun r6=>.h (((to,()),()),(),(),b,(r6.2),t16,t17,t18,t26,t27,t28,t40,(IntKind.i64.wrap (t41+1)),()) (sum,(r6.1),())) (.h (((to,()),()),(),(),b,e,t16,t17,t18,t26,t27,t28,t40,(IntKind.i64.wrap (t41+1)),()) (sum,product,()))) (.k (to,e,t16,t17,t18,t26,t27,t28,sum,product))
def zmH (zi:Atom→List Binding→Bool×(List Term×Int)) (x:ttTannotationreplace0) (y:ttTannotationreplace1):Wy ttTannotationreplace0 ttTannotationreplace1 ttTannotationreplace2:=zAt zi x.1.1.1 x.2.2.2.1 x.2.2.2.2.1 x.2.2.2.2.2.1 x.2.2.2.2.2.2.1 x.2.2.2.2.2.2.2.1 x.2.2.2.2.2.2.2.2.1 x.2.2.2.2.2.2.2.2.2.1 x.2.2.2.2.2.2.2.2.2.2.1 x.2.2.2.2.2.2.2.2.2.2.2.1 x.2.2.2.2.2.2.2.2.2.2.2.2.1 y.1 y.2.1
def zAb (zi:Atom→List Binding→Bool×(List Term×Int)) (n:Nat) (to:List Binding) (b:List Term) (e:Int) (t16:List Term) (t17:Int) (t18:Int) (t26:List Factor) (t27:Int) (t28:Int) (t40:Int) (t41:Int) (sum:List Term) (product:List Term):Bool×ttTannotationreplace2:=zN (zmH zi) default n (((to,()),()),(),(),b,e,t16,t17,t18,t26,t27,t28,t40,t41,()) (sum,product,())
def zqK (r:ttTannotationreplace2):LTree ty:=.done (.exit 4) [.fn 93 ([.bptr ([.sl 69 r.1]) 0]),.own 272,.own 273,.lit (.int .i64 r.2.1),.sl 42 r.2.2.1,.lit (.int .i64 r.2.2.2.1),.lit (.int .i64 r.2.2.2.2.1),.sl 50 r.2.2.2.2.2.1,.lit (.int .i64 r.2.2.2.2.2.2.1),.lit (.int .i64 r.2.2.2.2.2.2.2.1)] [.arr 42 r.2.2.2.2.2.2.2.2.1 false,.arr 42 r.2.2.2.2.2.2.2.2.2 false]
def zru:LL ty ttTannotationreplace0:=za (lFn 93 (za (zx5 (za (lSl 69) zS) 0) zS)) (za (lOwn 272) (za (lOwn 273) (za (lSl 42) (za (lInt .i64) (za (lSl 42) (za (lInt .i64) (za (lInt .i64) (za (lSl 50) (za (lInt .i64) (za (lInt .i64) (za (lInt .i64) (za (lInt .i64) zS))))))))))))
def zq3:BL ty ttTannotationreplace1:=bArr 42 false (bArr 42 false (bNil))
def zA7 (zi:Atom→List Binding→Bool×(List Term×Int)) (to:List Binding) (t16:List Term) (t17:Int) (t18:Int) (t26:List Factor) (t27:Int) (t28:Int) (sum:List Term) (product:List Term):Wy ttTannotationreplace3 ttTannotationreplace1 ttTannotationreplace4:=.i (decide (t28<t27)) (.i (decide (0≤t28)&&decide (t28<Int.ofNat t26.length)) (.bn (zi (Atom.mk (t26.getD t28.toNat default).Atom.Kind (t26.getD t28.toNat default).Atom.Row (t26.getD t28.toNat default).Atom.Args (t26.getD t28.toNat default).Atom.Func (t26.getD t28.toNat default).Atom.Items (t26.getD t28.toNat default).Atom.Op (t26.getD t28.toNat default).Atom.Bound) to) fun r9=>.bn (zAb zi (to.length+r9.1.length+r9.2.toNat +t16.length+t17.toNat +t18.toNat +t26.length+t27.toNat +t28.toNat +(t26.getD t28.toNat default).Exp.toNat +Int.toNat 0+sum.length+product.length+1) to r9.1 r9.2 t16 t17 t18 t26 t27 t28 (t26.getD t28.toNat default).Exp 0 sum product) fun r8=>.i (r8.2.1 != 0) (.k (.inl (r8.2.1))) (.h ((((r8.1),()),()),(),(),(r8.2.2.1),(r8.2.2.2.1),(r8.2.2.2.2.1),(r8.2.2.2.2.2.1),(r8.2.2.2.2.2.2.1),(IntKind.i64.wrap (r8.2.2.2.2.2.2.2.1+1)),()) ((r8.2.2.2.2.2.2.2.2.1),(r8.2.2.2.2.2.2.2.2.2),()))) .d) (.k (.inr (to,t16,t17,t18,sum,product)))
def znl (zi:Atom→List Binding→Bool×(List Term×Int)) (x:ttTannotationreplace3) (y:ttTannotationreplace1):Wy ttTannotationreplace3 ttTannotationreplace1 ttTannotationreplace4:=zA7 zi x.1.1.1 x.2.2.2.1 x.2.2.2.2.1 x.2.2.2.2.2.1 x.2.2.2.2.2.2.1 x.2.2.2.2.2.2.2.1 x.2.2.2.2.2.2.2.2.1 y.1 y.2.1
def zBo (zi:Atom→List Binding→Bool×(List Term×Int)) (n:Nat) (to:List Binding) (t16:List Term) (t17:Int) (t18:Int) (t26:List Factor) (t27:Int) (t28:Int) (sum:List Term) (product:List Term):Bool×ttTannotationreplace4:=zN (znl zi) (.inl default) n (((to,()),()),(),(),t16,t17,t18,t26,t27,t28,()) (sum,product,())
def zri (r:ttTannotationreplace4):LTree ty:=.ite (isL r) (.done .ret [.lit (.slice none 0 0),.lit (.int .i64 (getL r))] []) (.done (.exit 2) [.fn 93 ([.bptr ([.sl 69 (getR r).1]) 0]),.own 272,.own 273,.sl 42 (getR r).2.1,.lit (.int .i64 (getR r).2.2.1),.lit (.int .i64 (getR r).2.2.2.1)] [.arr 42 (getR r).2.2.2.2.1 false,.arr 42 (getR r).2.2.2.2.2 false])
def zsm:LL ty ttTannotationreplace3:=za (lFn 93 (za (zx5 (za (lSl 69) zS) 0) zS)) (za (lOwn 272) (za (lOwn 273) (za (lSl 42) (za (lInt .i64) (za (lInt .i64) (za (lSl 50) (za (lInt .i64) (za (lInt .i64) zS))))))))
def zsj:BL ty ttTannotationreplace1:=bArr 42 false (bArr 42 false (bNil))
def zBn (zi:Atom→List Binding→Bool×(List Term×Int)) (to:List Binding) (t16:List Term) (t17:Int) (t18:Int) (sum:List Term):Wy ttTannotationreplace5 ttTannotationreplace6 ttTannotationreplace7:=.i (decide (t18<t17)) (.i (decide (0≤t18)&&decide (t18<Int.ofNat t16.length)) (.bn (ztM (t16.getD t18.toNat default).Coeff) fun r14=>.bn (zBo zi (to.length+t16.length+t17.toNat +t18.toNat +(t16.getD t18.toNat default).Factors.length+(Int.ofNat (t16.getD t18.toNat default).Factors.length).toNat +Int.toNat 0+sum.length+r14.length+1) to t16 t17 t18 (t16.getD t18.toNat default).Factors (Int.ofNat (t16.getD t18.toNat default).Factors.length) 0 sum r14) fun r13=>.i (isL r13) (.k (.inl (getL r13))) (.bn (zw4 (getR r13).2.2.2.2.1 (getR r13).2.2.2.2.2) fun r12=>.i (r12.2 != 0) (.k (.inl (r12.2))) (.h ((((getR r13).1,()),()),(),(getR r13).2.1,(getR r13).2.2.1,(IntKind.i64.wrap ((getR r13).2.2.2.1+1)),()) ((r12.1),())))) .d) (.k (.inr sum))
def znn (zi:Atom→List Binding→Bool×(List Term×Int)) (x:ttTannotationreplace5) (y:ttTannotationreplace6):Wy ttTannotationreplace5 ttTannotationreplace6 ttTannotationreplace7:=zBn zi x.1.1.1 x.2.2.1 x.2.2.2.1 x.2.2.2.2.1 y.1
def zBb (zi:Atom→List Binding→Bool×(List Term×Int)) (n:Nat) (to:List Binding) (t16:List Term) (t17:Int) (t18:Int) (sum:List Term):Bool×ttTannotationreplace7:=zN (znn zi) (.inl default) n (((to,()),()),(),t16,t17,t18,()) (sum,())
def zre (r:ttTannotationreplace7):LTree ty:=.ite (isL r) (.done .ret [.lit (.slice none 0 0),.lit (.int .i64 (getL r))] []) (.done (.exit 0) [.own 272] [.arr 42 (getR r) false])
def zsg:LL ty ttTannotationreplace5:=za (lFn 93 (za (zx5 (za (lSl 69) zS) 0) zS)) (za (lOwn 272) (za (lSl 42) (za (lInt .i64) (za (lInt .i64) zS))))
def zsu:BL ty ttTannotationreplace6:=bArr 42 false (bNil)
def zqP (x:ttTannotationreplace0) (y:ttTannotationreplace1):Nat:=(x.1.1.1.length+x.2.2.2.1.length+Int.toNat x.2.2.2.2.1+x.2.2.2.2.2.1.length+Int.toNat x.2.2.2.2.2.2.1+Int.toNat x.2.2.2.2.2.2.2.1+x.2.2.2.2.2.2.2.2.1.length+Int.toNat x.2.2.2.2.2.2.2.2.2.1+Int.toNat x.2.2.2.2.2.2.2.2.2.2.1+Int.toNat x.2.2.2.2.2.2.2.2.2.2.2.1+Int.toNat x.2.2.2.2.2.2.2.2.2.2.2.2.1+y.1.length+y.2.1.length+1)
def zrT (x:ttTannotationreplace3) (y:ttTannotationreplace1):Nat:=(x.1.1.1.length+x.2.2.2.1.length+Int.toNat x.2.2.2.2.1+Int.toNat x.2.2.2.2.2.1+x.2.2.2.2.2.2.1.length+Int.toNat x.2.2.2.2.2.2.2.1+Int.toNat x.2.2.2.2.2.2.2.2.1+y.1.length+y.2.1.length+1)
def zrM (x:ttTannotationreplace5) (y:ttTannotationreplace6):Nat:=(x.1.1.1.length+x.2.2.1.length+Int.toNat x.2.2.2.1+Int.toNat x.2.2.2.2.1+y.1.length+1)
def zjJ (zi:Atom→List Binding→Bool×(List Term×Int)):Cx ty:=mkCx base0 68 [(13,zqo),(16,zmZ),(25,zoG),(93,zgo),(140,(zjd zi))] [] [(3,[(1,.keep),(6,.own 42),(16,.keep),(17,.keep),(18,.keep)]),(7,[(1,.keep),(6,.keep),(9,.keep),(16,.keep),(17,.keep),(18,.keep),(26,.keep),(27,.keep),(28,.keep)]),(11,[(1,.keep),(6,.keep),(9,.keep),(12,.sl 42),(13,.keep),(16,.keep),(17,.keep),(18,.keep),(26,.keep),(27,.keep),(28,.keep),(40,.keep),(41,.keep)])] [(3,1,[(6,.keep)]),(3,0,[(4,.keep),(5,.keep)]),(7,3,[(1,.keep),(6,.keep),(9,.keep),(16,.keep),(17,.keep),(18,.keep)]),(7,0,[(4,.keep),(5,.keep)]),(11,5,[(1,.keep),(6,.keep),(9,.keep),(13,.keep),(16,.keep),(17,.keep),(18,.keep),(26,.keep),(27,.keep),(28,.keep)])] [(11,spW zru zq3 (zmH zi) default zqK zqP),(7,spW zsm zsj (znl zi) (.inl default) zri zrT),(3,spW zsg zsu (znn zi) (.inl default) zre zrM)] []
theorem zzA (zi:Atom→List Binding→Bool×(List Term×Int)):zbp (zjJ zi) (lp (body Tryz.f92) 2):=zY (id:=11) (V:=zru) (B:=zq3) (W:=zmH zi) (z:=default) (tr:=zqK) (m:=zqP)
theorem zAG (zi:Atom→List Binding→Bool×(List Term×Int)):zbp (zjJ zi) (lp (body Tryz.f92) 1):=zY (id:=7) (V:=zsm) (B:=zsj) (W:=znl zi) (z:=.inl default) (tr:=zri) (m:=zrT)
theorem zzR (zi:Atom→List Binding→Bool×(List Term×Int)):zbp (zjJ zi) (lp (body Tryz.f92) 0):=zY (id:=3) (V:=zsg) (B:=zsu) (W:=znn zi) (z:=.inl default) (tr:=zre) (m:=zrM)
def ztr (zi:Atom→List Binding→Bool×(List Term×Int)) (a:List Term) (to:List Binding):Wy0 (List Term×Int):=.bn (zBb zi (to.length+a.length+(Int.ofNat a.length).toNat +Int.toNat 0+0+1) to a (Int.ofNat a.length) 0 []) fun r18=>.i (isL r18) (.k ([],getL r18)) (.k (getR r18,0))
def zvt (zi:Atom→List Binding→Bool×(List Term×Int)) (a:List Term) (to:List Binding):Bool×(List Term×Int):=(ztr zi a to).fin default
theorem zyG (zi:Atom→List Binding→Bool×(List Term×Int)) (zyn:Sound Tryz.prog base0 140 (zjd zi)):Sound Tryz.prog base0 92 (zi3 (zvt zi)):=
 zD (cx':=(zjJ zi)) zQ zim zL (zF ⟨zuN,zpt,ztv.nodr,zja.nodr,zyn,trivial⟩) Tryz.call92 Tryz.func92 (c:=body Tryz.f92) (by kernel_rfl) (zj (l:=[lp (body Tryz.f92) 0,lp (body Tryz.f92) 1,lp (body Tryz.f92) 2]) (by kernel_rfl) ⟨zzR zi,zAG zi,zzA zi,trivial⟩) (sg:=⟨[.own 42,.pure],[]⟩) (A:=zvB) (res:=zth) (W:=fun x=>ztr zi x.1 x.2.1.1.1) (z:=default)
def ze0 (x:List Weighted) (a b:Int):Bool×List Weighted:=zII zbl x a b
def slices_insertionSortCmpFunc_api_Weighted_spec:Ab.Spec ty:=zr (cx:=base) (zf (aOwn 52) (zf (zg (vInt .i64)) (zf (zg (vInt .i64)) (zf (zg (vFn 85 vNil)) aNil)))) fun x=>((ze0 x.1 x.2.1 x.2.2.1).1,⟨[],[some ⟨52,(ze0 x.1 x.2.1 x.2.2.1).2⟩]⟩)
theorem znO (c:Unit) (x y:Weighted) (h:(zbl x y).1=true):annotation_compareItems_spec ((AV.agg (base.enc 52 x)::AV.agg (base.enc 52 y)::(vNil:VL base Unit).enc c).map Arg.pure)=some (true,⟨[.pure (.lit (.int .i64 (zbl x y).2))],[]⟩):=by
 rw [← h]; kernel_rfl
theorem znd:Sound Tryz.prog base 164 slices_insertionSortCmpFunc_api_Weighted_spec:=by
 letI:DecidableEq (ty 52):=inferInstanceAs (DecidableEq Weighted)
 exact zNj (T:=52) zB rfl Go.Proofs.Tryz.insW Tryz.isAgg52 (by unfold szOf; exact Tryz.sizeOf52) Tryz.call164 zgn vNil (fun c=>zbl) znO
open Go.Proofs Go.RowKit
def zb4 (x:List Weighted) (m:Int):Bool×List Weighted:=(decide (SortOK zbl x)&&(decide (m=x.length)&&decide (m<20)),zm0 zbl x)
def zjW:Ab.Spec ty:=zr (cx:=base) (zf (aOwn 52) (zf (zg (vInt .i64)) (zf (zg (vFn 85 vNil)) aNil))) fun x=>((zb4 x.1 x.2.1).1,⟨[],[some ⟨52,(zb4 x.1 x.2.1).2⟩]⟩)
set_option maxHeartbeats 1000000 in
theorem zpH:Sound Tryz.prog base 139 zjW where
 enters:=Tryz.call139
 calls:=fun avs r hsp w F vs hF ha hsep=>by
  unfold zjW zr at hsp
  split at hsp
  ·rename_i x hx
   simp only [Option.some.injEq,Prod.mk.injEq] at hsp
   obtain ⟨hpre,rfl⟩:=hsp
   have hk:=(zf (aOwn 52) (zf (zg (vInt .i64)) (zf (zg (vFn 85 vNil)) aNil)):AL base _).kind vs avs x hx
   have ha':=(zf (aOwn 52) (zf (zg (vInt .i64)) (zf (zg (vFn 85 vNil)) aNil)):AL base _).ok Tryz.prog zB F w vs avs x hx ha
   rw [hk] at hsep ⊢
   clear hk hx ha
   obtain ⟨l0,m,c,u0⟩:=x
   obtain ⟨l,rfl⟩:∃ l:List Weighted,l=l0:=⟨l0,rfl⟩
   obtain ⟨v,vs',rfl,hv,hv'⟩:=ha'.inv
   obtain ⟨mv,vs1,rfl,hm,hv1⟩:=hv'.inv
   obtain ⟨fv,vs'',rfl,hfv,h0⟩:=hv1.inv
   obtain rfl:=h0.nil_left.1
   have hm:Rep base F w mv (.lit (.int .i64 m)):=hm
   obtain rfl:mv=.int .i64 m:=by cases hm; rfl
   have hsl:∃ p cap,v=.slice p l.length cap:=by
    obtain ⟨⟨xs,hown,_⟩,_⟩:=(show zcF base F w v 52 l∧∀ b,zV v=some b→¬ F b from hv)
    rcases hown.2 with ⟨h1,h2⟩ | ⟨g0,cap,cur,h1,_⟩
    ·exact ⟨none,0,by rw [h1,show l.length=0 from h2]⟩
    ·exact ⟨_,cap,h1⟩
   have hpre:(decide (SortOK (α:=Weighted) zbl l)&&(decide (m=l.length)&&decide (m<20)))=true:=hpre
   simp only [Bool.and_eq_true,decide_eq_true_eq] at hpre
   obtain ⟨hok,rfl,h20⟩:=hpre
   have hpp:(ze0 l 0 (l.length:Int)).1=true:=by
    show (decide (SortOK (α:=Weighted) zbl l)&&(decide ((0:Int)=0)&&decide ((l.length:Int)=l.length)))=true
    simp only [Bool.and_eq_true,decide_eq_true_eq]
    exact ⟨hok,trivial,trivial⟩
   have hp:=(znd).calls [.own 52 l,.pure (.lit (.int .i64 0)),.pure (.lit (.int .i64 (l.length:Int))),.pure (.fn 85 [])] ⟨[],[some ⟨52,(zb4 l (l.length:Int)).2⟩]⟩
    (by rw [← hpp]; kernel_rfl) w F [v,.int .i64 0,.int .i64 (l.length:Int),fv] hF (.cons hv (.cons (Rep.lit _) (.cons (Rep.lit _) (.cons hfv .nil)))) hsep
   replace hp:Calls Tryz.prog 164 #[v,.int .i64 0,.int .i64 (l.length:Int),fv] w fun e w'=>∃ u,e=.returned u∧Post base F w [v] ⟨[],[some ⟨52,(zb4 l (l.length:Int)).2⟩]⟩ u w':=hp
   show Calls Tryz.prog 139 #[v,.int .i64 (l.length:Int),fv] w fun e w'=>∃ u,e=.returned u∧Post base F w [v] ⟨[],[some ⟨52,(zb4 l (l.length:Int)).2⟩]⟩ u w'
   generalize (zb4 l (l.length:Int)).2=res at hp ⊢
   generalize hn:l.length=m at *
   clear hpp hv hfv hsep hok hF hm
   obtain ⟨p,cap,rfl⟩:=hsl
   clear hn
   go_enter Tryz.func139,Tryz.ntmps139
   go_wp2
   refine wp_loop_rounds 1 ?_
   rw [rounds_succ]
   go_wp2_with (go_at_call 164; refine hp.mono ?_; rintro e w' ⟨u,rfl,hpost⟩; obtain rfl:=hpost.unit)
   refine wp_loop_rounds 1 ?_
   rw [rounds_succ]
   go_wp2
   all_goals first | (exfalso; omega) | (go_end0; exact ⟨_,rfl,hpost⟩)
  ·cases hsp
end Go.Proofs.YtnolcogncjijpaaGreatDoor
namespace Go.Proofs.YtnolcogncjijpaaGreatDoor
open Go Go.Ab
open Go.Proofs Go.RowKit
def zbg (x:List Weighted):Bool×List Weighted:=(decide (SortOK zbl x)&&decide (x.length<20),zm0 zbl x)
def zcZ:Ab.Spec ty:=zr (cx:=base) (zf (aOwn 52) (zf (zg (vFn 85 vNil)) aNil)) fun x=>((zbg x.1).1,⟨[],[some ⟨52,(zbg x.1).2⟩]⟩)
set_option maxHeartbeats 1000000 in
theorem zkF:Sound Tryz.prog base 84 zcZ where
 enters:=Tryz.call84
 calls:=fun avs r hsp w F vs hF ha hsep=>by
  unfold zcZ zr at hsp
  split at hsp
  ·rename_i x hx
   simp only [Option.some.injEq,Prod.mk.injEq] at hsp
   obtain ⟨hpre,rfl⟩:=hsp
   have hk:=(zf (aOwn 52) (zf (zg (vFn 85 vNil)) aNil):AL base _).kind vs avs x hx
   have ha':=(zf (aOwn 52) (zf (zg (vFn 85 vNil)) aNil):AL base _).ok Tryz.prog zB F w vs avs x hx ha
   rw [hk] at hsep ⊢
   clear hk hx ha
   obtain ⟨l0,c,u0⟩:=x
   obtain ⟨l,rfl⟩:∃ l:List Weighted,l=l0:=⟨l0,rfl⟩
   obtain ⟨v,vs',rfl,hv,hv'⟩:=ha'.inv
   obtain ⟨fv,vs'',rfl,hfv,h0⟩:=hv'.inv
   obtain rfl:=h0.nil_left.1
   have hsl:∃ p cap,v=.slice p l.length cap:=by
    obtain ⟨⟨xs,hown,_⟩,_⟩:=(show zcF base F w v 52 l∧∀ b,zV v=some b→¬ F b from hv)
    rcases hown.2 with ⟨h1,h2⟩ | ⟨g0,cap,cur,h1,_⟩
    ·exact ⟨none,0,by rw [h1,show l.length=0 from h2]⟩
    ·exact ⟨_,cap,h1⟩
   have hpre:(decide (SortOK (α:=Weighted) zbl l)&&decide (l.length<20))=true:=hpre
   simp only [Bool.and_eq_true,decide_eq_true_eq] at hpre
   obtain ⟨hok,h20⟩:=hpre
   have hpp:(zb4 l (l.length:Int)).1=true:=by
    show (decide (SortOK (α:=Weighted) zbl l)&&(decide ((l.length:Int)=l.length)&&decide ((l.length:Int)<20)))=true
    simp only [Bool.and_eq_true,decide_eq_true_eq]
    exact ⟨hok,trivial,by omega⟩
   have hp:=(zpH).calls [.own 52 l,.pure (.lit (.int .i64 (l.length:Int))),.pure (.fn 85 [])] ⟨[],[some ⟨52,(zbg l).2⟩]⟩
    (by rw [← hpp]; kernel_rfl) w F [v,.int .i64 (l.length:Int),fv] hF (.cons hv (.cons (Rep.lit _) (.cons hfv .nil))) hsep
   replace hp:Calls Tryz.prog 139 #[v,.int .i64 (l.length:Int),fv] w fun e w'=>∃ u,e=.returned u∧Post base F w [v] ⟨[],[some ⟨52,(zbg l).2⟩]⟩ u w':=hp
   show Calls Tryz.prog 84 #[v,fv] w fun e w'=>∃ u,e=.returned u∧Post base F w [v] ⟨[],[some ⟨52,(zbg l).2⟩]⟩ u w'
   generalize (zbg l).2=res at hp ⊢
   generalize hn:l.length=m at *
   clear hpp hv hfv hsep hok hF
   obtain ⟨p,cap,rfl⟩:=hsl
   clear hn
   go_enter Tryz.func84,Tryz.ntmps84
   go_wp2_with (go_at_call 139; refine hp.mono ?_; rintro e w' ⟨u,rfl,hpost⟩; obtain rfl:=hpost.unit)
   go_end0
   exact ⟨_,rfl,hpost⟩
  ·cases hsp
end Go.Proofs.YtnolcogncjijpaaGreatDoor
namespace Go.Proofs.YtnolcogncjijpaaGreatDoor
open Go Go.Ab
abbrev ttTannotationItems0:=Unit×List Weighted×Int×Int×Unit
abbrev ttTannotationItems1:=List Weighted×Unit
def zEG (t6:List Weighted) (t7:Int) (t8:Int) (out_:List Weighted):Wy ttTannotationItems0 ttTannotationItems1 (List Weighted):=.i (decide (t8<t7)) (.i (decide (0≤t8)&&decide (t8<Int.ofNat t6.length)) (.i (decide (Int.ofNat (t6.getD t8.toNat default).Ann.length>0)) (.bn (zfv (t6.getD t8.toNat default).Ann) fun r0=>.i (decide ((out_.length+[WeightedOf.mk (t6.getD t8.toNat default).Value r0].length)*56≤zT)) (.h ((),t6,t7,(IntKind.i64.wrap (t8+1)),()) ((out_++[WeightedOf.mk (t6.getD t8.toNat default).Value r0]),())) .d) (.h ((),t6,t7,(IntKind.i64.wrap (t8+1)),()) (out_,()))) .d) (.k out_)
def zqr (x:ttTannotationItems0) (y:ttTannotationItems1):Wy ttTannotationItems0 ttTannotationItems1 (List Weighted):=zEG x.2.1 x.2.2.1 x.2.2.2.1 y.1
def zED (n:Nat) (t6:List Weighted) (t7:Int) (t8:Int) (out_:List Weighted):Bool×List Weighted:=zN (zqr) default n ((),t6,t7,t8,()) (out_,())
def zuL (r:List Weighted):LTree ty:=.done (.exit 0) [.own 116] [.arr 52 r false]
def zv3:LL ty ttTannotationItems0:=za (lOwn 116) (za (lSl 52) (za (lInt .i64) (za (lInt .i64) zS)))
def zwe:BL ty ttTannotationItems1:=bArr 52 false (bNil)
def zvj (x:ttTannotationItems0) (y:ttTannotationItems1):Nat:=(x.2.1.length+Int.toNat x.2.2.1+Int.toNat x.2.2.2.1+y.1.length+1)
def zv9:Cx ty:=mkCx base 29 [(61,annotation_copied_spec),(84,zcZ),(85,annotation_compareItems_spec)] [(84,[true,false])] [(3,[(3,.own 52),(6,.keep),(7,.keep),(8,.keep)])] [(3,1,[(3,.keep)])] [(3,spW zv3 zwe (zqr) default zuL zvj)] []
theorem zDP:zbp zv9 (lp (body Tryz.f36) 0):=zY (id:=3) (V:=zv3) (B:=zwe) (W:=zqr) (z:=default) (tr:=zuL) (m:=zvj)
def zyd (l:List Weighted):Wy0 (List Weighted):=.bn (zED (l.length+(Int.ofNat l.length).toNat +Int.toNat 0+0+1) l (Int.ofNat l.length) 0 []) fun r3=>.bn (zbg r3) fun r2=>.k r2
def ztH (l:List Weighted):Bool×List Weighted:=(zyd l).fin default
def zuQ (r:List Weighted):ARes ty:=⟨[.own 52 r],[]⟩
def zxt:AL base ttTannotationItems1:=zf (zg (vSl 52)) aNil
def ztU:Ab.Spec ty:=zr zxt fun x=>((ztH x.1).1,zuQ (ztH x.1).2)
theorem zCi:Sound Tryz.prog base 36 ztU:=
 zD (cx':=zv9) zQ zB zL (zF ⟨zhn,zkF,zgn,trivial⟩) Tryz.call36 Tryz.func36 (c:=body Tryz.f36) (by kernel_rfl) (zj (l:=[lp (body Tryz.f36) 0]) (by kernel_rfl) ⟨zDP,trivial⟩) (sg:=⟨[.own 52],[]⟩) (A:=zxt) (res:=zuQ) (W:=fun x=>zyd x.1) (z:=default)
def zCG:Cx ty:=mkCx base 7 [(31,annotation_Valid_spec)] [] [] [] [] []
def zuO (w:Weighted):Wy0 (Bool):=.bn (zbK w.Ann) fun r0=>.k (!r0)
def zro (w:Weighted):Bool×Bool:=(zuO w).fin default
def ztg (r:Bool):ARes ty:=⟨[.pure (.lit (.bool r))],[]⟩
def zvc:AL base (Weighted×Unit):=zf (zg (vAgg 52)) aNil
def zjM:Ab.Spec ty:=zr zvc fun x=>((zro x.1).1,ztg (zro x.1).2)
theorem zmE:Sound Tryz.prog base 77 zjM:=
 zD (cx':=zCG) zQ zB zL (zF ⟨zcm,trivial⟩) Tryz.call77 Tryz.func77 (c:=body Tryz.f77) (by kernel_rfl) (zj (l:=[]) (by kernel_rfl) trivial) (sg:=⟨[.pure],[]⟩) (A:=zvc) (res:=ztg) (W:=fun x=>zuO x.1) (z:=default)
def zEK:Cx ty:=mkCx base 28 [] [] [] [] [] []
def zxM (op:Int) (sign:Int):Wy0 (Bool):=.i (op==5) (.k (sign==0)) (.i (op==6) (.k (sign != 0)) (.i (op==7) (.k (decide (sign<0))) (.i (op==8) (.k (decide (sign≤0))) (.i (op==9) (.k (decide (sign>0))) (.k (decide (sign≥0)))))))
def ztR (op:Int) (sign:Int):Bool×Bool:=(zxM op sign).fin default
def zu9 (r:Bool):ARes ty:=⟨[.pure (.lit (.bool r))],[]⟩
def zxo:AL base (Int×Int×Unit):=zf (zg (vInt .i64)) (zf (zg (vInt .i64)) aNil)
def zuj:Ab.Spec ty:=zr zxo fun x=>((ztR x.1 x.2.1).1,zu9 (ztR x.1 x.2.1).2)
theorem zB5:Sound Tryz.prog base 78 zuj:=
 zD (cx':=zEK) zQ zB zL (zF trivial) Tryz.call78 Tryz.func78 (c:=body Tryz.f78) (by kernel_rfl) (zj (l:=[]) (by kernel_rfl) trivial) (sg:=⟨[.pure],[]⟩) (A:=zxo) (res:=zu9) (W:=fun x=>zxM x.1 x.2.1) (z:=default)
abbrev ttTslicesIndexFuncLapiWeightedapiWeightedt10:=List Weighted×Unit×Int×Int×Unit
def zmx (s:List Weighted) (t7:Int) (t8:Int):Wy ttTslicesIndexFuncLapiWeightedapiWeightedt10 (Unit) (Int⊕Unit):=.i (decide (t8<t7)) (.i (decide (0≤t8)&&decide (t8<Int.ofNat s.length)) (.bn (zro (s.getD t8.toNat default)) fun r0=>.i (r0) (.k (.inl t8)) (.h (s,(),t7,(IntKind.i64.wrap (t8+1)),()) ())) .d) (.k (.inr ()))
def zdy (x:ttTslicesIndexFuncLapiWeightedapiWeightedt10) (y:Unit):Wy ttTslicesIndexFuncLapiWeightedapiWeightedt10 (Unit) (Int⊕Unit):=zmx x.1 x.2.2.1 x.2.2.2.1
def zmp (n:Nat) (s:List Weighted) (t7:Int) (t8:Int):Bool×(Int⊕Unit):=zN (zdy) (.inl default) n (s,(),t7,t8,()) ()
def zfZ (r:Int⊕Unit):LTree ty:=.ite (isL r) (.done .ret [.lit (.int .i64 (getL r))] []) (.done (.exit 0) [] [])
def zf6:LL ty ttTslicesIndexFuncLapiWeightedapiWeightedt10:=za (lSl 52) (za (lFn 77 (zS)) (za (lInt .i64) (za (lInt .i64) zS)))
def zgm:BL ty (Unit):=bNil
def zfG (x:ttTslicesIndexFuncLapiWeightedapiWeightedt10) (y:Unit):Nat:=(x.1.length+Int.toNat x.2.2.1+Int.toNat x.2.2.2.1+1)
def zf4:Cx ty:=mkCx base 19 [(77,zjM)] [] [(2,[(0,.keep),(1,.keep),(7,.keep),(8,.keep)])] [(2,1,[]),(2,0,[(4,.keep)])] [(2,spW zf6 zgm (zdy) (.inl default) zfZ zfG)] []
theorem zl9:zbp zf4 (lp (body Tryz.f135) 0):=zY (id:=2) (V:=zf6) (B:=zgm) (W:=zdy) (z:=.inl default) (tr:=zfZ) (m:=zfG)
def zgw (s:List Weighted):Wy0 (Int):=.bn (zmp (s.length+(Int.ofNat s.length).toNat +Int.toNat 0+1) s (Int.ofNat s.length) 0) fun r2=>.i (isL r2) (.k (getL r2)) (.k (-1:Int))
def zdT (s:List Weighted):Bool×Int:=(zgw s).fin default
def zfH (r:Int):ARes ty:=⟨[.pure (.lit (.int .i64 r))],[]⟩
def zgH:AL base (List Weighted×Unit×Unit):=zf (zg (vSl 52)) (zf (zg (vFn 77 vNil)) aNil)
def zfo:Ab.Spec ty:=zr zgH fun x=>((zdT x.1).1,zfH (zdT x.1).2)
theorem zle:Sound Tryz.prog base 135 zfo:=
 zD (cx':=zf4) zQ zB zL (zF ⟨zmE,trivial⟩) Tryz.call135 Tryz.func135 (c:=body Tryz.f135) (by kernel_rfl) (zj (l:=[lp (body Tryz.f135) 0]) (by kernel_rfl) ⟨zl9,trivial⟩) (sg:=⟨[.pure],[]⟩) (A:=zgH) (res:=zfH) (W:=fun x=>zgw x.1) (z:=default)
def zlj:Cx ty:=mkCx base 9 [(77,zjM),(135,zfo)] [] [] [] [] []
def zfs (s:List Weighted):Wy0 (Bool):=.bn (zdT s) fun r0=>.k (decide (r0≥0))
def zdx (s:List Weighted):Bool×Bool:=(zfs s).fin default
def ze3 (r:Bool):ARes ty:=⟨[.pure (.lit (.bool r))],[]⟩
def zfu:AL base (List Weighted×Unit×Unit):=zf (zg (vSl 52)) (zf (zg (vFn 77 vNil)) aNil)
def zeL:Ab.Spec ty:=zr zfu fun x=>((zdx x.1).1,ze3 (zdx x.1).2)
theorem zkl:Sound Tryz.prog base 76 zeL:=
 zD (cx':=zlj) zQ zB zL (zF ⟨zmE,zle,trivial⟩) Tryz.call76 Tryz.func76 (c:=body Tryz.f76) (by kernel_rfl) (zj (l:=[]) (by kernel_rfl) trivial) (sg:=⟨[.pure],[]⟩) (A:=zfu) (res:=ze3) (W:=fun x=>zfs x.1) (z:=default)
def zFt:Cx ty:=mkCx base 45 [(29,zjT),(36,ztU),(53,zdU),(62,zfl),(75,zni),(76,zeL),(77,zjM),(78,zuj),(79,zkf)] [] [] [] [] []
def zy2 (fn:Int) (items:List Weighted) (op:Int) (bound:Value):Wy0 (List Term×Int):=.bn (ziw fn items op bound) fun r5=>.i (!r5) (.k ([],1)) (.bn (zdx items) fun r4=>.i (r4) (.k ([],1)) (.bn (ztH items) fun r3=>.i (decide (Int.ofNat r3.length>0)) (.bn (zdq (zem (Atom.mk 4 (RowID.mk 0 0) [] fn r3 op bound)).2) fun r0=>.k (r0.1,r0.2)) (.i (fn==0) (.bn (zhF 0 bound.Int) fun r2=>.bn (ztR op r2) fun r1=>.i (r1) (.k (zkb.2,0)) (.k ([],0))) (.k ([],0)))))
def zvy (fn:Int) (items:List Weighted) (op:Int) (bound:Value):Bool×(List Term×Int):=(zy2 fn items op bound).fin default
def zwg (r:List Term×Int):ARes ty:=⟨[.own 42 r.1,.pure (.lit (.int .i64 r.2))],[]⟩
def zyZ:AL base (Int×List Weighted×Int×Value×Unit):=zf (zg (vInt .i64)) (zf (zg (vSl 52)) (zf (zg (vInt .i64)) (zf (zg (vAgg 46)) aNil)))
def zvH:Ab.Spec ty:=zr zyZ fun x=>((zvy x.1 x.2.1 x.2.2.1 x.2.2.2.1).1,zwg (zvy x.1 x.2.1 x.2.2.1 x.2.2.2.1).2)
theorem zCF:Sound Tryz.prog base 33 zvH:=
 zD (cx':=zFt) zQ zB zL (zF ⟨zlN,zCi,zeu,zhm,zq5,zkl,zmE,zB5,zm9,trivial⟩) Tryz.call33 Tryz.func33 (c:=body Tryz.f33) (by kernel_rfl) (zj (l:=[]) (by kernel_rfl) trivial) (sg:=⟨[.own 42,.pure],[]⟩) (A:=zyZ) (res:=zwg) (W:=fun x=>zy2 x.1 x.2.1 x.2.2.1 x.2.2.2.1) (z:=default)
abbrev ttTannotationreplaceAtom0:=((List Binding×Unit)×Unit)×Unit×Unit×List (List Term)×Int×Int×Unit
abbrev ttTannotationreplaceAtom1:=Atom×List (List Term)×Unit
abbrev ttTannotationreplaceAtom2:=Int⊕(List Binding×Atom×List (List Term))
abbrev ttTannotationreplaceAtom3:=((List Binding×Unit)×Unit)×Unit×Unit×List Weighted×Int×Int×Unit
abbrev ttTannotationreplaceAtom4:=Atom×List Weighted×Unit
abbrev ttTannotationreplaceAtom5:=Int⊕(Atom×List Weighted)
def zxs (zC:List Term→List Binding→Bool×(List Term×Int)) (to:List Binding) (t24:List (List Term)) (t25:Int) (t26:Int) (x_:Atom) (args:List (List Term)):Wy ttTannotationreplaceAtom0 ttTannotationreplaceAtom1 ttTannotationreplaceAtom2:=.i (decide (t26<t25)) (.i (decide (0≤t26)&&decide (t26<Int.ofNat t24.length)) (.bn (zC (t24.getD t26.toNat default) to) fun r2=>.i (r2.2 != 0) (.k (.inl (r2.2))) (.i (decide ((args.length+[r2.1].length)*24≤zT)) (.h (((to,()),()),(),(),t24,t25,(IntKind.i64.wrap (t26+1)),()) (x_,(args++[r2.1]),())) .d)) .d) (.k (.inr (to,x_,args)))
def zkO (zC:List Term→List Binding→Bool×(List Term×Int)) (x:ttTannotationreplaceAtom0) (y:ttTannotationreplaceAtom1):Wy ttTannotationreplaceAtom0 ttTannotationreplaceAtom1 ttTannotationreplaceAtom2:=zxs zC x.1.1.1 x.2.2.2.1 x.2.2.2.2.1 x.2.2.2.2.2.1 y.1 y.2.1
def zxw (zC:List Term→List Binding→Bool×(List Term×Int)) (n:Nat) (to:List Binding) (t24:List (List Term)) (t25:Int) (t26:Int) (x_:Atom) (args:List (List Term)):Bool×ttTannotationreplaceAtom2:=zN (zkO zC) (.inl default) n (((to,()),()),(),(),t24,t25,t26,()) (x_,args,())
def zoI (r:ttTannotationreplaceAtom2):LTree ty:=.ite (isL r) (.done .ret [.lit (.slice none 0 0),.lit (.int .i64 (getL r))] []) (.done (.exit 0) [.fn 93 ([.bptr ([.sl 69 (getR r).1]) 0]),.ptr 432 0,.own 433] [.box (base.enc 48 (getR r).2.1) false,.arr 23 (getR r).2.2 false])
def zo2:LL ty ttTannotationreplaceAtom0:=za (lFn 93 (za (zx5 (za (lSl 69) zS) 0) zS)) (za (zqQ 432 0) (za (lOwn 433) (za (lSl 23) (za (lInt .i64) (za (lInt .i64) zS)))))
def zo0:BL ty ttTannotationreplaceAtom1:=bBox (ztB (fun x=>(⟨x.1,⟨x.2.1,x.2.2.1⟩,x.2.2.2.1,x.2.2.2.2.1,x.2.2.2.2.2.1,x.2.2.2.2.2.2.1,⟨x.2.2.2.2.2.2.2.1,x.2.2.2.2.2.2.2.2.1,x.2.2.2.2.2.2.2.2.2.1⟩⟩:Atom)) (fun x=>(x.Kind,x.Row.Table,x.Row.Seq,x.Args,x.Func,x.Items,x.Op,x.Bound.Kind,x.Bound.Int,x.Bound.Text,())) (fun _=>rfl) (za (lInt .i64) (za (lInt .i64) (za (lInt .i64) (za (lSl 23) (za (lInt .i64) (za (lSl 52) (za (lInt .i64) (za (lInt .i64) (za (lInt .i64) (za lStr zS))))))))))) false (bArr 23 false (bNil))
def zwO (zC:List Term→List Binding→Bool×(List Term×Int)) (to:List Binding) (t74:List Weighted) (t75:Int) (t76:Int) (x_:Atom) (items:List Weighted):Wy ttTannotationreplaceAtom3 ttTannotationreplaceAtom4 ttTannotationreplaceAtom5:=.i (decide (t76<t75)) (.i (decide (0≤t76)&&decide (t76<Int.ofNat t74.length)) (.bn (zC (t74.getD t76.toNat default).Ann to) fun r4=>.i (r4.2 != 0) (.k (.inl (r4.2))) (.i (decide ((items.length+[WeightedOf.mk (t74.getD t76.toNat default).Value r4.1].length)*56≤zT)) (.h (((to,()),()),(),(),t74,t75,(IntKind.i64.wrap (t76+1)),()) (x_,(items++[WeightedOf.mk (t74.getD t76.toNat default).Value r4.1]),())) .d)) .d) (.k (.inr (x_,items)))
def zj9 (zC:List Term→List Binding→Bool×(List Term×Int)) (x:ttTannotationreplaceAtom3) (y:ttTannotationreplaceAtom4):Wy ttTannotationreplaceAtom3 ttTannotationreplaceAtom4 ttTannotationreplaceAtom5:=zwO zC x.1.1.1 x.2.2.2.1 x.2.2.2.2.1 x.2.2.2.2.2.1 y.1 y.2.1
def zwx (zC:List Term→List Binding→Bool×(List Term×Int)) (n:Nat) (to:List Binding) (t74:List Weighted) (t75:Int) (t76:Int) (x_:Atom) (items:List Weighted):Bool×ttTannotationreplaceAtom5:=zN (zj9 zC) (.inl default) n (((to,()),()),(),(),t74,t75,t76,()) (x_,items,())
def zn5 (r:ttTannotationreplaceAtom5):LTree ty:=.ite (isL r) (.done .ret [.lit (.slice none 0 0),.lit (.int .i64 (getL r))] []) (.done (.exit 3) [.ptr 432 0,.own 433] [.box (base.enc 48 (getR r).1) false,.arr 52 (getR r).2 false])
def zoo:LL ty ttTannotationreplaceAtom3:=za (lFn 93 (za (zx5 (za (lSl 69) zS) 0) zS)) (za (zqQ 432 0) (za (lOwn 433) (za (lSl 52) (za (lInt .i64) (za (lInt .i64) zS)))))
def zos:BL ty ttTannotationreplaceAtom4:=bBox (ztB (fun x=>(⟨x.1,⟨x.2.1,x.2.2.1⟩,x.2.2.2.1,x.2.2.2.2.1,x.2.2.2.2.2.1,x.2.2.2.2.2.2.1,⟨x.2.2.2.2.2.2.2.1,x.2.2.2.2.2.2.2.2.1,x.2.2.2.2.2.2.2.2.2.1⟩⟩:Atom)) (fun x=>(x.Kind,x.Row.Table,x.Row.Seq,x.Args,x.Func,x.Items,x.Op,x.Bound.Kind,x.Bound.Int,x.Bound.Text,())) (fun _=>rfl) (za (lInt .i64) (za (lInt .i64) (za (lInt .i64) (za (lSl 23) (za (lInt .i64) (za (lSl 52) (za (lInt .i64) (za (lInt .i64) (za (lInt .i64) (za lStr zS))))))))))) false (bArr 52 false (bNil))
def zoD (x:ttTannotationreplaceAtom0) (y:ttTannotationreplaceAtom1):Nat:=(x.1.1.1.length+x.2.2.2.1.length+Int.toNat x.2.2.2.2.1+Int.toNat x.2.2.2.2.2.1+y.1.Args.length+y.1.Items.length+y.2.1.length+1)
def zn4 (x:ttTannotationreplaceAtom3) (y:ttTannotationreplaceAtom4):Nat:=(x.1.1.1.length+x.2.2.2.1.length+Int.toNat x.2.2.2.2.1+Int.toNat x.2.2.2.2.2.1+y.1.Args.length+y.1.Items.length+y.2.1.length+1)
def zkI (zC:List Term→List Binding→Bool×(List Term×Int)):Cx ty:=mkCx base0 108 [(18,zk8),(20,zk5),(22,znQ),(33,zvH),(92,(zi3 zC)),(93,zgo)] [] [(5,[(1,.keep),(2,.keep),(6,.own 23),(24,.keep),(25,.keep),(26,.keep)]),(21,[(1,.keep),(2,.keep),(11,.own 52),(74,.keep),(75,.keep),(76,.keep)])] [(5,1,[(1,.keep),(2,.keep),(6,.keep)]),(5,0,[(4,.keep),(5,.keep)]),(21,4,[(2,.keep),(11,.keep)]),(21,0,[(4,.keep),(5,.keep)])] [(5,spW zo2 zo0 (zkO zC) (.inl default) zoI zoD),(21,spW zoo zos (zj9 zC) (.inl default) zn5 zn4)] []
theorem zwC (zC:List Term→List Binding→Bool×(List Term×Int)):zbp (zkI zC) (lp (body Tryz.f140) 0):=zY (id:=5) (V:=zo2) (B:=zo0) (W:=zkO zC) (z:=.inl default) (tr:=zoI) (m:=zoD)
theorem zvU (zC:List Term→List Binding→Bool×(List Term×Int)):zbp (zkI zC) (lp (body Tryz.f140) 1):=zY (id:=21) (V:=zoo) (B:=zos) (W:=zj9 zC) (z:=.inl default) (tr:=zn5) (m:=zn4)
def zp5 (zC:List Term→List Binding→Bool×(List Term×Int)) (x_:Atom) (to:List Binding):Wy0 (List Term×Int):=.i (x_.Kind==0) (.bn (zmR x_.Row to) fun r6=>.k (r6,0)) (.bn (zxw zC (to.length+x_.Args.length+(Int.ofNat x_.Args.length).toNat +Int.toNat 0+x_.Args.length+x_.Items.length+0+1) to x_.Args (Int.ofNat x_.Args.length) 0 (Atom.mk x_.Kind x_.Row x_.Args x_.Func x_.Items x_.Op x_.Bound) []) fun r12=>.i (isL r12) (.k ([],getL r12)) (.i ((getR r12).2.1.Kind==1) (.i (decide ((0:Int)≤(0:Int))&&decide (0<Int.ofNat (getR r12).2.2.length)) (.i (decide ((0:Int)≤(1:Int))&&decide (1<Int.ofNat (getR r12).2.2.length)) (.bn (ze1 ((getR r12).2.2.getD (Int.toNat 0) default) ((getR r12).2.2.getD (Int.toNat 1) default)) fun r7=>.k (r7.1,r7.2)) .d) .d) (.i ((getR r12).2.1.Kind==2) (.i (decide ((0:Int)≤(0:Int))&&decide (0<Int.ofNat (getR r12).2.2.length)) (.bn (zik ((getR r12).2.2.getD (Int.toNat 0) default)) fun r8=>.k (r8.1,r8.2)) .d) (.i ((getR r12).2.1.Kind==3) (.i (decide ((0:Int)≤(0:Int))&&decide (0<Int.ofNat (getR r12).2.2.length)) (.bn (zjo ((getR r12).2.2.getD (Int.toNat 0) default)) fun r9=>.k (r9.1,r9.2)) .d) (.bn (zwx zC ((getR r12).1.length+(getR r12).2.1.Items.length+(Int.ofNat (getR r12).2.1.Items.length).toNat +Int.toNat 0+(getR r12).2.1.Args.length+(getR r12).2.1.Items.length+0+1) (getR r12).1 (getR r12).2.1.Items (Int.ofNat (getR r12).2.1.Items.length) 0 (Atom.mk (getR r12).2.1.Kind (getR r12).2.1.Row (getR r12).2.1.Args (getR r12).2.1.Func (getR r12).2.1.Items (getR r12).2.1.Op (getR r12).2.1.Bound) []) fun r11=>.i (isL r11) (.k ([],getL r11)) (.bn (zvy (getR r11).1.Func (getR r11).2 (getR r11).1.Op (getR r11).1.Bound) fun r10=>.k (r10.1,r10.2)))))))
def zqX (zC:List Term→List Binding→Bool×(List Term×Int)) (x_:Atom) (to:List Binding):Bool×(List Term×Int):=(zp5 zC x_ to).fin default
theorem zuR (zC:List Term→List Binding→Bool×(List Term×Int)) (zB3:Sound Tryz.prog base0 92 (zi3 zC)):Sound Tryz.prog base0 140 (zjd (zqX zC)):=
 zD (cx':=(zkI zC)) zQ zim zL (zF ⟨znX.nodr,znN.nodr,zsA.nodr,zCF.nodr,zB3,zja.nodr,trivial⟩) Tryz.call140 Tryz.func140 (c:=body Tryz.f140) (by kernel_rfl) (zj (l:=[lp (body Tryz.f140) 0,lp (body Tryz.f140) 1]) (by kernel_rfl) ⟨zwC zC,zvU zC,trivial⟩) (sg:=⟨[.own 42,.pure],[]⟩) (A:=zrx) (res:=zp3) (W:=fun x=>zp5 zC x.1 x.2.1.1.1) (z:=default)
def zxc:Nat→(List Term→List Binding→Bool×(List Term×Int))×(Atom→List Binding→Bool×(List Term×Int))
 | 0=>(fun _ _=>(false,default),fun _ _=>(false,default))
 | n+1=>(zvt ((zxc n).2),zqX ((zxc n).1))
def zvJ (n:Nat):List Term→List Binding→Bool×(List Term×Int):=(zxc n).1
def zAd (n:Nat):Atom→List Binding→Bool×(List Term×Int):=(zxc n).2
theorem zD7:∀ n,Sound Tryz.prog base0 92 (zi3 (zvJ n))∧Sound Tryz.prog base0 140 (zjd (zAd n))
 | 0=>⟨zbB Tryz.call92 (fun _=>rfl),zbB Tryz.call140 (fun _=>rfl)⟩
 | n+1=>by
  have ih:=zD7 n
  exact ⟨zyG _ (ih.2),zuR _ (ih.1)⟩
def zya:List Term→List Binding→Bool×(List Term×Int):=zvJ 1000
def annotation_replace_spec:Ab.Spec ty:=zi3 zya
theorem zz0:Sound Tryz.prog base0 92 annotation_replace_spec:=(zD7 1000).1
def zxD:Cx ty:=mkCx base 7 [(31,annotation_Valid_spec)] [] [] [] [] []
def zpO (b:Binding):Wy0 (Bool):=.bn (zbK b.To) fun r0=>.k (!r0)
def zmP (b:Binding):Bool×Bool:=(zpO b).fin default
def zov (r:Bool):ARes ty:=⟨[.pure (.lit (.bool r))],[]⟩
def zpT:AL base (Binding×Unit):=zf (zg (vAgg 69)) aNil
def zgq:Ab.Spec ty:=zr zpT fun x=>((zmP x.1).1,zov (zmP x.1).2)
theorem zjh:Sound Tryz.prog base 91 zgq:=
 zD (cx':=zxD) zQ zB zL (zF ⟨zcm,trivial⟩) Tryz.call91 Tryz.func91 (c:=body Tryz.f91) (by kernel_rfl) (zj (l:=[]) (by kernel_rfl) trivial) (sg:=⟨[.pure],[]⟩) (A:=zpT) (res:=zov) (W:=fun x=>zpO x.1) (z:=default)
abbrev ttTslicesIndexFuncLapiBindingapiBindings10:=List Binding×Unit×Int×Int×Unit
def zm5 (s:List Binding) (t7:Int) (t8:Int):Wy ttTslicesIndexFuncLapiBindingapiBindings10 (Unit) (Int⊕Unit):=.i (decide (t8<t7)) (.i (decide (0≤t8)&&decide (t8<Int.ofNat s.length)) (.bn (zmP (s.getD t8.toNat default)) fun r0=>.i (r0) (.k (.inl t8)) (.h (s,(),t7,(IntKind.i64.wrap (t8+1)),()) ())) .d) (.k (.inr ()))
def zdN (x:ttTslicesIndexFuncLapiBindingapiBindings10) (y:Unit):Wy ttTslicesIndexFuncLapiBindingapiBindings10 (Unit) (Int⊕Unit):=zm5 x.1 x.2.2.1 x.2.2.2.1
def zm1 (n:Nat) (s:List Binding) (t7:Int) (t8:Int):Bool×(Int⊕Unit):=zN (zdN) (.inl default) n (s,(),t7,t8,()) ()
def zgF (r:Int⊕Unit):LTree ty:=.ite (isL r) (.done .ret [.lit (.int .i64 (getL r))] []) (.done (.exit 0) [] [])
def zgZ:LL ty ttTslicesIndexFuncLapiBindingapiBindings10:=za (lSl 69) (za (lFn 91 (zS)) (za (lInt .i64) (za (lInt .i64) zS)))
def zg4:BL ty (Unit):=bNil
def zgu (x:ttTslicesIndexFuncLapiBindingapiBindings10) (y:Unit):Nat:=(x.1.length+Int.toNat x.2.2.1+Int.toNat x.2.2.2.1+1)
def zg3:Cx ty:=mkCx base 19 [(91,zgq)] [] [(2,[(0,.keep),(1,.keep),(7,.keep),(8,.keep)])] [(2,1,[]),(2,0,[(4,.keep)])] [(2,spW zgZ zg4 (zdN) (.inl default) zgF zgu)] []
theorem zmG:zbp zg3 (lp (body Tryz.f94) 0):=zY (id:=2) (V:=zgZ) (B:=zg4) (W:=zdN) (z:=.inl default) (tr:=zgF) (m:=zgu)
def zhp (s:List Binding):Wy0 (Int):=.bn (zm1 (s.length+(Int.ofNat s.length).toNat +Int.toNat 0+1) s (Int.ofNat s.length) 0) fun r2=>.i (isL r2) (.k (getL r2)) (.k (-1:Int))
def zd5 (s:List Binding):Bool×Int:=(zhp s).fin default
def zgt (r:Int):ARes ty:=⟨[.pure (.lit (.int .i64 r))],[]⟩
def zhj:AL base (List Binding×Unit×Unit):=zf (zg (vSl 69)) (zf (zg (vFn 91 vNil)) aNil)
def zgc:Ab.Spec ty:=zr zhj fun x=>((zd5 x.1).1,zgt (zd5 x.1).2)
theorem zlV:Sound Tryz.prog base 94 zgc:=
 zD (cx':=zg3) zQ zB zL (zF ⟨zjh,trivial⟩) Tryz.call94 Tryz.func94 (c:=body Tryz.f94) (by kernel_rfl) (zj (l:=[lp (body Tryz.f94) 0]) (by kernel_rfl) ⟨zmG,trivial⟩) (sg:=⟨[.pure],[]⟩) (A:=zhj) (res:=zgt) (W:=fun x=>zhp x.1) (z:=default)
def zl0:Cx ty:=mkCx base 9 [(91,zgq),(94,zgc)] [] [] [] [] []
def zgj (s:List Binding):Wy0 (Bool):=.bn (zd5 s) fun r0=>.k (decide (r0≥0))
def zdM (s:List Binding):Bool×Bool:=(zgj s).fin default
def zfz (r:Bool):ARes ty:=⟨[.pure (.lit (.bool r))],[]⟩
def zge:AL base (List Binding×Unit×Unit):=zf (zg (vSl 69)) (zf (zg (vFn 91 vNil)) aNil)
def ze5:Ab.Spec ty:=zr zge fun x=>((zdM x.1).1,zfz (zdM x.1).2)
theorem zkQ:Sound Tryz.prog base 90 ze5:=
 zD (cx':=zl0) zQ zB zL (zF ⟨zjh,zlV,trivial⟩) Tryz.call90 Tryz.func90 (c:=body Tryz.f90) (by kernel_rfl) (zj (l:=[]) (by kernel_rfl) trivial) (sg:=⟨[.pure],[]⟩) (A:=zge) (res:=zfz) (W:=fun x=>zgj x.1) (z:=default)
def zAI:Cx ty:=mkCx base0 18 [(31,annotation_Valid_spec),(90,ze5),(91,zgq),(92,annotation_replace_spec),(93,zgo)] [] [] [] [] []
def zss (a:List Term) (l:List Binding):Wy0 (List Term×Int):=.bn (zbK a) fun r2=>.i (!r2) (.k ([],1)) (.bn (zdM l) fun r1=>.i (r1) (.k ([],1)) (.bn (zya a l) fun r0=>.k (r0.1,r0.2)))
def zuu (a:List Term) (l:List Binding):Bool×(List Term×Int):=(zss a l).fin default
def zqM (r:List Term×Int):ARes ty:=⟨[.own 42 r.1,.pure (.lit (.int .i64 r.2))],[]⟩
def zsy:AL base0 (List Term×List Binding×Unit):=zf (zg (vSl 42)) (zf (zg (vSl 69)) aNil)
def zpJ:Ab.Spec ty:=zr zsy fun x=>((zuu x.1 x.2.1).1,zqM (zuu x.1 x.2.1).2)
theorem zxi:Sound Tryz.prog base0 41 zpJ:=
 zD (cx':=zAI) zQ zim zL (zF ⟨zcm.nodr,zkQ.nodr,zjh.nodr,zz0,zja.nodr,trivial⟩) Tryz.call41 Tryz.func41 (c:=body Tryz.f41) (by kernel_rfl) (zj (l:=[]) (by kernel_rfl) trivial) (sg:=⟨[.own 42,.pure],[]⟩) (A:=zsy) (res:=zqM) (W:=fun x=>zss x.1 x.2.1) (z:=default)
def zIf:Cx ty:=mkCx base0 84 [(13,zqo),(16,zmZ),(18,zk8),(20,zk5),(25,zoG),(27,zqj),(41,zpJ),(51,ztd)] [] [] [] [] []
def zEt:Wy0 (Bool):=.k true
def zGs:Bool×Bool:=(zEt).fin default
def zBA (r:Bool):ARes ty:=⟨[.pure (.lit (.bool r))],[]⟩
def zEh:AL base0 (Unit):=aNil
def zAE:Ab.Spec ty:=zr zEh fun x=>((zGs ).1,zBA (zGs ).2)
theorem zGc:Sound Tryz.prog base0 11 zAE:=
 zD (cx':=zIf) zQ zim zL (zF ⟨zuN,zpt,znX.nodr,znN.nodr,ztv.nodr,zuW.nodr,zxi,zBi,trivial⟩) Tryz.call11 Tryz.func11 (c:=body Tryz.f11) (by kernel_rfl) (zj (l:=[]) (by kernel_rfl) trivial) (sg:=⟨[.pure],[]⟩) (A:=zEh) (res:=zBA) (W:=fun x=>zEt ) (z:=default)
def zAL (r:Int):ARes ty:=⟨[.pure (.lit (.int .i64 r))],[]⟩
def zCC:AL base (List Term×Int×Int×Unit):=zf (zg (vSl 42)) (zf (zg (vInt .i64)) (zf (zg (vInt .i64)) aNil))
def zoP (F:List Term→Int→Int→Bool×Int):Ab.Spec ty:=zr zCC fun x=>((F x.1 x.2.1 x.2.2.1).1,zAL (F x.1 x.2.1 x.2.2.1).2)
abbrev ttTref05weight0:=List Term×Int×Int×Int×Int×Int×Unit×Int×Unit
abbrev ttTref05weight1:=List Term×Int×Int×Int×Int×Int×Atom
abbrev ttTref05weight2:=List Term×Int×Int×Int×Int×Int
abbrev ttTref05weight3:=List Term×Int×Int×Int×Int×Int×Unit
abbrev ttTref05weight4:=List Term×Int×Int×Int×Int
abbrev ttTref05weight5:=List Term×Int×Int×Int×Int×Unit
def zrm (zt:List Term→Int→Int→Bool×Int) (a:List Term) (limit:Int) (deep:Int) (n_:Int) (i:Int) (k:Int) (j:Int) (x_:Atom):Wy ttTref05weight0 (Atom×Unit) ttTref05weight1:=.i (decide (j<Int.ofNat x_.Args.length)) (.i (decide (n_≤limit)) (.i (decide (0≤j)&&decide (j<Int.ofNat x_.Args.length)) (.bn (zt (x_.Args.getD j.toNat default) (IntKind.i64.wrap (limit - n_)) (IntKind.i64.wrap (deep - 1))) fun r0=>.h (a,limit,deep,(IntKind.i64.wrap (n_+r0)),i,k,(),(IntKind.i64.wrap (j+1)),()) (x_,())) .d) (.k (a,limit,deep,n_,i,k,x_))) (.k (a,limit,deep,n_,i,k,x_))
def zrv (zt:List Term→Int→Int→Bool×Int) (x:ttTref05weight0) (y:Atom×Unit):Wy ttTref05weight0 (Atom×Unit) ttTref05weight1:=zrm zt x.1 x.2.1 x.2.2.1 x.2.2.2.1 x.2.2.2.2.1 x.2.2.2.2.2.1 x.2.2.2.2.2.2.2.1 y.1
def zra (zt:List Term→Int→Int→Bool×Int) (n:Nat) (a:List Term) (limit:Int) (deep:Int) (n_:Int) (i:Int) (k:Int) (j:Int) (x_:Atom):Bool×ttTref05weight1:=zN (zrv zt) default n (a,limit,deep,n_,i,k,(),j,()) (x_,())
def zwk (r:ttTref05weight1):LTree ty:=.done (.exit 4) [.sl 42 r.1,.lit (.int .i64 r.2.1),.lit (.int .i64 r.2.2.1),.lit (.int .i64 r.2.2.2.1),.lit (.int .i64 r.2.2.2.2.1),.lit (.int .i64 r.2.2.2.2.2.1),.ptr 544 0] [.box (base.enc 48 r.2.2.2.2.2.2) false]
def zyc:LL ty ttTref05weight0:=za (lSl 42) (za (lInt .i64) (za (lInt .i64) (za (lInt .i64) (za (lInt .i64) (za (lInt .i64) (za (zqQ 544 0) (za (lInt .i64) zS)))))))
def zxI:BL ty (Atom×Unit):=bBox (ztB (fun x=>(⟨x.1,⟨x.2.1,x.2.2.1⟩,x.2.2.2.1,x.2.2.2.2.1,x.2.2.2.2.2.1,x.2.2.2.2.2.2.1,⟨x.2.2.2.2.2.2.2.1,x.2.2.2.2.2.2.2.2.1,x.2.2.2.2.2.2.2.2.2.1⟩⟩:Atom)) (fun x=>(x.Kind,x.Row.Table,x.Row.Seq,x.Args,x.Func,x.Items,x.Op,x.Bound.Kind,x.Bound.Int,x.Bound.Text,())) (fun _=>rfl) (za (lInt .i64) (za (lInt .i64) (za (lInt .i64) (za (lSl 23) (za (lInt .i64) (za (lSl 52) (za (lInt .i64) (za (lInt .i64) (za (lInt .i64) (za lStr zS))))))))))) false (bNil)
def zrN (zt:List Term→Int→Int→Bool×Int) (a:List Term) (limit:Int) (deep:Int) (n_:Int) (i:Int) (k:Int) (j:Int) (x_:Atom):Wy ttTref05weight0 (Atom×Unit) ttTref05weight2:=.i (decide (j<Int.ofNat x_.Items.length)) (.i (decide (n_≤limit)) (.i (decide (0≤j)&&decide (j<Int.ofNat x_.Items.length)) (.i (decide (0≤j)&&decide (j<Int.ofNat x_.Items.length)) (.bn (zt (x_.Items.getD j.toNat default).Ann (IntKind.i64.wrap (limit - n_)) (IntKind.i64.wrap (deep - 1))) fun r2=>.h (a,limit,deep,(IntKind.i64.wrap (IntKind.i64.wrap (n_+Int.ofNat (x_.Items.getD j.toNat default).Value.Text.size)+r2)),i,k,(),(IntKind.i64.wrap (j+1)),()) (x_,())) .d) .d) (.k (a,limit,deep,n_,i,k))) (.k (a,limit,deep,n_,i,k))
def zrH (zt:List Term→Int→Int→Bool×Int) (x:ttTref05weight0) (y:Atom×Unit):Wy ttTref05weight0 (Atom×Unit) ttTref05weight2:=zrN zt x.1 x.2.1 x.2.2.1 x.2.2.2.1 x.2.2.2.2.1 x.2.2.2.2.2.1 x.2.2.2.2.2.2.2.1 y.1
def zry (zt:List Term→Int→Int→Bool×Int) (n:Nat) (a:List Term) (limit:Int) (deep:Int) (n_:Int) (i:Int) (k:Int) (j:Int) (x_:Atom):Bool×ttTref05weight2:=zN (zrH zt) default n (a,limit,deep,n_,i,k,(),j,()) (x_,())
def zwd (r:ttTref05weight2):LTree ty:=.done (.exit 6) [.sl 42 r.1,.lit (.int .i64 r.2.1),.lit (.int .i64 r.2.2.1),.lit (.int .i64 r.2.2.2.1),.lit (.int .i64 r.2.2.2.2.1),.lit (.int .i64 r.2.2.2.2.2)] []
def zxr:LL ty ttTref05weight0:=za (lSl 42) (za (lInt .i64) (za (lInt .i64) (za (lInt .i64) (za (lInt .i64) (za (lInt .i64) (za (zqQ 544 0) (za (lInt .i64) zS)))))))
def zyf:BL ty (Atom×Unit):=bBox (ztB (fun x=>(⟨x.1,⟨x.2.1,x.2.2.1⟩,x.2.2.2.1,x.2.2.2.2.1,x.2.2.2.2.2.1,x.2.2.2.2.2.2.1,⟨x.2.2.2.2.2.2.2.1,x.2.2.2.2.2.2.2.2.1,x.2.2.2.2.2.2.2.2.2.1⟩⟩:Atom)) (fun x=>(x.Kind,x.Row.Table,x.Row.Seq,x.Args,x.Func,x.Items,x.Op,x.Bound.Kind,x.Bound.Int,x.Bound.Text,())) (fun _=>rfl) (za (lInt .i64) (za (lInt .i64) (za (lInt .i64) (za (lSl 23) (za (lInt .i64) (za (lSl 52) (za (lInt .i64) (za (lInt .i64) (za (lInt .i64) (za lStr zS))))))))))) false (bNil)
def zsS (zt:List Term→Int→Int→Bool×Int) (a:List Term) (limit:Int) (deep:Int) (n_:Int) (i:Int) (k:Int):Wy ttTref05weight3 (Unit) ttTref05weight4:=.i (decide (0≤i)&&decide (i<Int.ofNat a.length)) (.i (decide (k<Int.ofNat (a.getD i.toNat default).Factors.length)) (.i (decide (n_≤limit)) (.i (decide (0≤i)&&decide (i<Int.ofNat a.length)) (.i (decide (0≤k)&&decide (k<Int.ofNat (a.getD i.toNat default).Factors.length)) (.bn (zra zt ((a.length+limit.toNat +deep.toNat +(IntKind.i64.wrap (IntKind.i64.wrap (IntKind.i64.wrap (n_+Int.ofNat ((a.getD i.toNat default).Factors.getD k.toNat default).Atom.Items.length)+Int.ofNat ((a.getD i.toNat default).Factors.getD k.toNat default).Atom.Args.length)+Int.ofNat ((a.getD i.toNat default).Factors.getD k.toNat default).Atom.Bound.Text.size)).toNat +i.toNat +k.toNat +Int.toNat 0+1)+(Atom.mk ((a.getD i.toNat default).Factors.getD k.toNat default).Atom.Kind ((a.getD i.toNat default).Factors.getD k.toNat default).Atom.Row ((a.getD i.toNat default).Factors.getD k.toNat default).Atom.Args ((a.getD i.toNat default).Factors.getD k.toNat default).Atom.Func ((a.getD i.toNat default).Factors.getD k.toNat default).Atom.Items ((a.getD i.toNat default).Factors.getD k.toNat default).Atom.Op ((a.getD i.toNat default).Factors.getD k.toNat default).Atom.Bound).Args.length+(Atom.mk ((a.getD i.toNat default).Factors.getD k.toNat default).Atom.Kind ((a.getD i.toNat default).Factors.getD k.toNat default).Atom.Row ((a.getD i.toNat default).Factors.getD k.toNat default).Atom.Args ((a.getD i.toNat default).Factors.getD k.toNat default).Atom.Func ((a.getD i.toNat default).Factors.getD k.toNat default).Atom.Items ((a.getD i.toNat default).Factors.getD k.toNat default).Atom.Op ((a.getD i.toNat default).Factors.getD k.toNat default).Atom.Bound).Items.length) a limit deep (IntKind.i64.wrap (IntKind.i64.wrap (IntKind.i64.wrap (n_+Int.ofNat ((a.getD i.toNat default).Factors.getD k.toNat default).Atom.Items.length)+Int.ofNat ((a.getD i.toNat default).Factors.getD k.toNat default).Atom.Args.length)+Int.ofNat ((a.getD i.toNat default).Factors.getD k.toNat default).Atom.Bound.Text.size)) i k 0 (Atom.mk ((a.getD i.toNat default).Factors.getD k.toNat default).Atom.Kind ((a.getD i.toNat default).Factors.getD k.toNat default).Atom.Row ((a.getD i.toNat default).Factors.getD k.toNat default).Atom.Args ((a.getD i.toNat default).Factors.getD k.toNat default).Atom.Func ((a.getD i.toNat default).Factors.getD k.toNat default).Atom.Items ((a.getD i.toNat default).Factors.getD k.toNat default).Atom.Op ((a.getD i.toNat default).Factors.getD k.toNat default).Atom.Bound)) fun r5=>.bn (zry zt ((r5.1.length+r5.2.1.toNat +r5.2.2.1.toNat +r5.2.2.2.1.toNat +r5.2.2.2.2.1.toNat +r5.2.2.2.2.2.1.toNat +Int.toNat 0+1)+(Atom.mk r5.2.2.2.2.2.2.Kind r5.2.2.2.2.2.2.Row r5.2.2.2.2.2.2.Args r5.2.2.2.2.2.2.Func r5.2.2.2.2.2.2.Items r5.2.2.2.2.2.2.Op r5.2.2.2.2.2.2.Bound).Args.length+(Atom.mk r5.2.2.2.2.2.2.Kind r5.2.2.2.2.2.2.Row r5.2.2.2.2.2.2.Args r5.2.2.2.2.2.2.Func r5.2.2.2.2.2.2.Items r5.2.2.2.2.2.2.Op r5.2.2.2.2.2.2.Bound).Items.length) r5.1 r5.2.1 r5.2.2.1 r5.2.2.2.1 r5.2.2.2.2.1 r5.2.2.2.2.2.1 0 (Atom.mk r5.2.2.2.2.2.2.Kind r5.2.2.2.2.2.2.Row r5.2.2.2.2.2.2.Args r5.2.2.2.2.2.2.Func r5.2.2.2.2.2.2.Items r5.2.2.2.2.2.2.Op r5.2.2.2.2.2.2.Bound)) fun r4=>.h ((r4.1),(r4.2.1),(r4.2.2.1),(r4.2.2.2.1),(r4.2.2.2.2.1),(IntKind.i64.wrap (r4.2.2.2.2.2+1)),()) ()) .d) .d) (.k (a,limit,deep,n_,i))) (.k (a,limit,deep,n_,i))) .d
def zsJ (zt:List Term→Int→Int→Bool×Int) (x:ttTref05weight3) (y:Unit):Wy ttTref05weight3 (Unit) ttTref05weight4:=zsS zt x.1 x.2.1 x.2.2.1 x.2.2.2.1 x.2.2.2.2.1 x.2.2.2.2.2.1
def zsN (zt:List Term→Int→Int→Bool×Int) (n:Nat) (a:List Term) (limit:Int) (deep:Int) (n_:Int) (i:Int) (k:Int):Bool×ttTref05weight4:=zN (zsJ zt) default n (a,limit,deep,n_,i,k,()) ()
def zxY (r:ttTref05weight4):LTree ty:=.done (.exit 2) [.sl 42 r.1,.lit (.int .i64 r.2.1),.lit (.int .i64 r.2.2.1),.lit (.int .i64 r.2.2.2.1),.lit (.int .i64 r.2.2.2.2)] []
def zzc:LL ty ttTref05weight3:=za (lSl 42) (za (lInt .i64) (za (lInt .i64) (za (lInt .i64) (za (lInt .i64) (za (lInt .i64) zS)))))
def zza:BL ty (Unit):=bNil
def zsM (zt:List Term→Int→Int→Bool×Int) (a:List Term) (limit:Int) (deep:Int) (n_:Int) (i:Int):Wy ttTref05weight5 (Unit) (Int):=.i (decide (i<Int.ofNat a.length)) (.i (decide (n_≤limit)) (.i (decide (0≤i)&&decide (i<Int.ofNat a.length)) (.bn (zsN zt (a.length+limit.toNat +deep.toNat +(IntKind.i64.wrap (IntKind.i64.wrap (n_+1)+Int.ofNat (a.getD i.toNat default).Factors.length)).toNat +i.toNat +Int.toNat 0+1) a limit deep (IntKind.i64.wrap (IntKind.i64.wrap (n_+1)+Int.ofNat (a.getD i.toNat default).Factors.length)) i 0) fun r8=>.h ((r8.1),(r8.2.1),(r8.2.2.1),(r8.2.2.2.1),(IntKind.i64.wrap (r8.2.2.2.2+1)),()) ()) .d) (.k n_)) (.k n_)
def zsG (zt:List Term→Int→Int→Bool×Int) (x:ttTref05weight5) (y:Unit):Wy ttTref05weight5 (Unit) (Int):=zsM zt x.1 x.2.1 x.2.2.1 x.2.2.2.1 x.2.2.2.2.1
def zsO (zt:List Term→Int→Int→Bool×Int) (n:Nat) (a:List Term) (limit:Int) (deep:Int) (n_:Int) (i:Int):Bool×Int:=zN (zsG zt) default n (a,limit,deep,n_,i,()) ()
def zx0 (r:Int):LTree ty:=.done (.exit 0) [.lit (.int .i64 r)] []
def zzi:LL ty ttTref05weight5:=za (lSl 42) (za (lInt .i64) (za (lInt .i64) (za (lInt .i64) (za (lInt .i64) zS))))
def zy5:BL ty (Unit):=bNil
def zv2 (x:ttTref05weight0) (y:Atom×Unit):Nat:=((x.1.length+Int.toNat x.2.1+Int.toNat x.2.2.1+Int.toNat x.2.2.2.1+Int.toNat x.2.2.2.2.1+Int.toNat x.2.2.2.2.2.1+Int.toNat x.2.2.2.2.2.2.2.1+1)+y.1.Args.length+y.1.Items.length)
def zwa (x:ttTref05weight0) (y:Atom×Unit):Nat:=((x.1.length+Int.toNat x.2.1+Int.toNat x.2.2.1+Int.toNat x.2.2.2.1+Int.toNat x.2.2.2.2.1+Int.toNat x.2.2.2.2.2.1+Int.toNat x.2.2.2.2.2.2.2.1+1)+y.1.Args.length+y.1.Items.length)
def zxE (x:ttTref05weight3) (y:Unit):Nat:=(x.1.length+Int.toNat x.2.1+Int.toNat x.2.2.1+Int.toNat x.2.2.2.1+Int.toNat x.2.2.2.2.1+Int.toNat x.2.2.2.2.2.1+1)
def zxL (x:ttTref05weight5) (y:Unit):Nat:=(x.1.length+Int.toNat x.2.1+Int.toNat x.2.2.1+Int.toNat x.2.2.2.1+Int.toNat x.2.2.2.2.1+1)
def zlp (zt:List Term→Int→Int→Bool×Int):Cx ty:=mkCx base 136 [(52,(zoP zt))] [] [(5,[(0,.keep),(1,.keep),(2,.keep),(7,.keep),(8,.keep)]),(9,[(0,.keep),(1,.keep),(2,.keep),(7,.keep),(8,.keep),(9,.keep)]),(14,[(0,.keep),(1,.keep),(2,.keep),(7,.keep),(8,.keep),(9,.keep),(10,.keep),(11,.keep)]),(18,[(0,.keep),(1,.keep),(2,.keep),(7,.keep),(8,.keep),(9,.keep),(10,.keep),(12,.keep)])] [(5,1,[(7,.keep)]),(9,3,[(0,.keep),(1,.keep),(2,.keep),(7,.keep),(8,.keep)]),(14,5,[(0,.keep),(1,.keep),(2,.keep),(7,.keep),(8,.keep),(9,.keep),(10,.keep)]),(18,7,[(0,.keep),(1,.keep),(2,.keep),(7,.keep),(8,.keep),(9,.keep)])] [(14,spW zyc zxI (zrv zt) default zwk zv2),(18,spW zxr zyf (zrH zt) default zwd zwa),(9,spW zzc zza (zsJ zt) default zxY zxE),(5,spW zzi zy5 (zsG zt) default zx0 zxL)] []
theorem zEB (zt:List Term→Int→Int→Bool×Int):zbp (zlp zt) (lp (body Tryz.f52) 2):=zY (id:=14) (V:=zyc) (B:=zxI) (W:=zrv zt) (z:=default) (tr:=zwk) (m:=zv2)
theorem zEx (zt:List Term→Int→Int→Bool×Int):zbp (zlp zt) (lp (body Tryz.f52) 3):=zY (id:=18) (V:=zxr) (B:=zyf) (W:=zrH zt) (z:=default) (tr:=zwd) (m:=zwa)
theorem zE1 (zt:List Term→Int→Int→Bool×Int):zbp (zlp zt) (lp (body Tryz.f52) 1):=zY (id:=9) (V:=zzc) (B:=zza) (W:=zsJ zt) (z:=default) (tr:=zxY) (m:=zxE)
theorem zFs (zt:List Term→Int→Int→Bool×Int):zbp (zlp zt) (lp (body Tryz.f52) 0):=zY (id:=5) (V:=zzi) (B:=zy5) (W:=zsG zt) (z:=default) (tr:=zx0) (m:=zxL)
def zpn (zt:List Term→Int→Int→Bool×Int) (a:List Term) (limit:Int) (deep:Int):Wy0 (Int):=.i (deep==0) (.k (IntKind.i64.wrap (limit+1))) (.bn (zsO zt (a.length+limit.toNat +deep.toNat +Int.toNat 0+Int.toNat 0+1) a limit deep 0 0) fun r10=>.k r10)
def zoy (zt:List Term→Int→Int→Bool×Int) (a:List Term) (limit:Int) (deep:Int):Bool×Int:=(zpn zt a limit deep).fin default
theorem zDJ (zt:List Term→Int→Int→Bool×Int) (zGY:Sound Tryz.prog base 52 (zoP zt)):Sound Tryz.prog base 52 (zoP (zoy zt)):=
 zD (cx':=(zlp zt)) zQ zB zL (zF ⟨zGY,trivial⟩) Tryz.call52 Tryz.func52 (c:=body Tryz.f52) (by kernel_rfl) (zj (l:=[lp (body Tryz.f52) 0,lp (body Tryz.f52) 1,lp (body Tryz.f52) 2,lp (body Tryz.f52) 3]) (by kernel_rfl) ⟨zFs zt,zE1 zt,zEB zt,zEx zt,trivial⟩) (sg:=⟨[.pure],[]⟩) (A:=zCC) (res:=zAL) (W:=fun x=>zpn zt x.1 x.2.1 x.2.2.1) (z:=default)
def zGN:Nat→(List Term→Int→Int→Bool×Int)
 | 0=>fun _ _ _=>(false,default)
 | n+1=>zoy (zGN n)
def zmw (n:Nat):List Term→Int→Int→Bool×Int:=zGN n
theorem zyY (n:Nat):zmw (n+1)=zoy (zmw n):=rfl
theorem zEs:∀ n,Sound Tryz.prog base 52 (zoP (zmw n))
 | 0=>zbB Tryz.call52 (fun _=>rfl)
 | n+1=>by
  have ih:=zEs n
  exact zDJ _ (ih)
def zAJ:List Term→Int→Int→Bool×Int:=zmw 1000
def ref05_weight_spec:Ab.Spec ty:=zoP zAJ
theorem zET:Sound Tryz.prog base 52 ref05_weight_spec:=(zEs 1000)
abbrev ttTref05Few0:=Int×List (List Term)×Int×Unit
def zAu (limit:Int) (l:List (List Term)) (i:Int):Wy ttTref05Few0 (Unit) (Bool⊕Unit):=.i (decide (i<Int.ofNat l.length)) (.i (decide (0≤i)&&decide (i<Int.ofNat l.length)) (.bn (zAJ (l.getD i.toNat default) limit 12) fun r0=>.i (decide (r0>limit)) (.k (.inl false)) (.h (limit,l,(IntKind.i64.wrap (i+1)),()) ())) .d) (.k (.inr ()))
def zAY (x:ttTref05Few0) (y:Unit):Wy ttTref05Few0 (Unit) (Bool⊕Unit):=zAu x.1 x.2.1 x.2.2.1
def zzQ (n:Nat) (limit:Int) (l:List (List Term)) (i:Int):Bool×(Bool⊕Unit):=zN (zAY) (.inl default) n (limit,l,i,()) ()
def zEd (r:Bool⊕Unit):LTree ty:=.ite (isL r) (.done .ret [.lit (.bool (getL r))] []) (.done (.exit 0) [] [])
def zEX:LL ty ttTref05Few0:=za (lInt .i64) (za (lSl 23) (za (lInt .i64) zS))
def zFy:BL ty (Unit):=bNil
def zEj (x:ttTref05Few0) (y:Unit):Nat:=(Int.toNat x.1+x.2.1.length+Int.toNat x.2.2.1+1)
def zFD:Cx ty:=mkCx base 20 [(52,ref05_weight_spec)] [] [(2,[(0,.keep),(1,.keep),(5,.keep)])] [(2,1,[]),(2,0,[(4,.keep)])] [(2,spW zEX zFy (zAY) (.inl default) zEd zEj)] []
theorem zJQ:zbp zFD (lp (body Tryz.f12) 0):=zY (id:=2) (V:=zEX) (B:=zFy) (W:=zAY) (z:=.inl default) (tr:=zEd) (m:=zEj)
def zCe (limit:Int) (l:List (List Term)):Wy0 (Bool):=.bn (zzQ (limit.toNat +l.length+Int.toNat 0+1) limit l 0) fun r2=>.i (isL r2) (.k (getL r2)) (.k true)
def zuy (limit:Int) (l:List (List Term)):Bool×Bool:=(zCe limit l).fin default
def zDZ (r:Bool):ARes ty:=⟨[.pure (.lit (.bool r))],[]⟩
def zGi:AL base (Int×List (List Term)×Unit):=zf (zg (vInt .i64)) (zf (zg (vSl 23)) aNil)
def zCH:Ab.Spec ty:=zr zGi fun x=>((zuy x.1 x.2.1).1,zDZ (zuy x.1 x.2.1).2)
theorem zHZ:Sound Tryz.prog base 12 zCH:=
 zD (cx':=zFD) zQ zB zL (zF ⟨zET,trivial⟩) Tryz.call12 Tryz.func12 (c:=body Tryz.f12) (by kernel_rfl) (zj (l:=[lp (body Tryz.f12) 0]) (by kernel_rfl) ⟨zJQ,trivial⟩) (sg:=⟨[.pure],[]⟩) (A:=zGi) (res:=zDZ) (W:=fun x=>zCe x.1 x.2.1) (z:=default)
abbrev ttTlaw05AnnotationSimplification0:=List Term×List Term×Unit
abbrev ttTlaw05AnnotationSimplification1:=List Term×List Term×Unit×Int×Unit
abbrev ttTlaw05AnnotationSimplification2:=List Term×Unit
def zhE (a:List Term) (b:List Term):Wy ttTlaw05AnnotationSimplification0 (Unit) (Bool):=.bn (ze1 a b) fun r3=>.i (r3.2 != 0) (.k true) (.i (Int.ofNat a.length==0) (.k true) (.i (Int.ofNat b.length==0) (.k true) (.bn (zca a b) fun r2=>.i (r2) (.k true) (.i (Int.ofNat r3.1.length==1) (.i (decide ((0:Int)≤(0:Int))&&decide (0<Int.ofNat r3.1.length)) (.i (Int.ofNat (r3.1.getD (Int.toNat 0) default).Factors.length==1) (.i (decide ((0:Int)≤(0:Int))&&decide (0<Int.ofNat r3.1.length)) (.i (decide ((0:Int)≤(0:Int))&&decide (0<Int.ofNat (r3.1.getD (Int.toNat 0) default).Factors.length)) (.i (((r3.1.getD (Int.toNat 0) default).Factors.getD (Int.toNat 0) default).Atom.Kind==1) (.i (decide ((0:Int)≤(0:Int))&&decide (0<Int.ofNat r3.1.length)) (.i (decide ((0:Int)≤(0:Int))&&decide (0<Int.ofNat (r3.1.getD (Int.toNat 0) default).Factors.length)) (.i (decide ((0:Int)≤(0:Int))&&decide (0<Int.ofNat ((r3.1.getD (Int.toNat 0) default).Factors.getD (Int.toNat 0) default).Atom.Args.length)) (.bn (zca (((r3.1.getD (Int.toNat 0) default).Factors.getD (Int.toNat 0) default).Atom.Args.getD (Int.toNat 0) default) a) fun r1=>.i (r1) (.i (decide ((0:Int)≤(0:Int))&&decide (0<Int.ofNat r3.1.length)) (.i (decide ((0:Int)≤(0:Int))&&decide (0<Int.ofNat (r3.1.getD (Int.toNat 0) default).Factors.length)) (.i (decide ((0:Int)≤(1:Int))&&decide (1<Int.ofNat ((r3.1.getD (Int.toNat 0) default).Factors.getD (Int.toNat 0) default).Atom.Args.length)) (.bn (zca (((r3.1.getD (Int.toNat 0) default).Factors.getD (Int.toNat 0) default).Atom.Args.getD (Int.toNat 1) default) b) fun r0=>.k r0) .d) .d) .d) (.k false)) .d) .d) .d) (.k false)) .d) .d) (.k false)) .d) (.k false)))))
def zei (x:ttTlaw05AnnotationSimplification0) (y:Unit):Wy ttTlaw05AnnotationSimplification0 (Unit) (Bool):=zhE x.1 x.2.1
def zeg (n:Nat) (a:List Term) (b:List Term):Bool×Bool:=zN (zei) default n (a,b,()) ()
def zk4 (r:Bool):LTree ty:=.done .ret [.lit (.bool r)] []
def zlq:LL ty ttTlaw05AnnotationSimplification0:=za (lSl 42) (za (lSl 42) zS)
def zlG:BL ty (Unit):=bNil
def zhG (a:List Term) (b:List Term) (i:Int) (n_:List Term):Wy ttTlaw05AnnotationSimplification1 ttTlaw05AnnotationSimplification2 (Bool):=.i (i==0) (.i (Int.ofNat n_.length != 0) (.bn (zmr n_ n_) fun r10=>.i (r10.2 != 0) (.k false) (.bn (zca r10.1 n_) fun r9=>.i (!r9) (.k false) (.bn (zeg 1 a b) fun r8=>.k r8))) (.bn (zeg 1 a b) fun r11=>.k r11)) (.bn (zeg 1 a b) fun r12=>.k r12)
def zef (x:ttTlaw05AnnotationSimplification1) (y:ttTlaw05AnnotationSimplification2):Wy ttTlaw05AnnotationSimplification1 ttTlaw05AnnotationSimplification2 (Bool):=zhG x.1 x.2.1 x.2.2.2.1 y.1
def zel (n:Nat) (a:List Term) (b:List Term) (i:Int) (n_:List Term):Bool×Bool:=zN (zef) default n (a,b,(),i,()) (n_,())
def zk6 (r:Bool):LTree ty:=.done .ret [.lit (.bool r)] []
def zlr:LL ty ttTlaw05AnnotationSimplification1:=za (lSl 42) (za (lSl 42) (za (lOwn 892) (za (lInt .i64) zS)))
def zls:BL ty ttTlaw05AnnotationSimplification2:=bArr 42 false (bNil)
def zhI (a:List Term) (b:List Term):Wy ttTlaw05AnnotationSimplification0 (Unit) (Bool):=.bn (zjo a) fun r22=>.i (r22.2==0) (.i (Int.ofNat a.length==0) (.bn (zca r22.1 zkb.2) fun r19=>.i (!r19) (.k false) (.bn (zel 1 a b r22.2 r22.1) fun r18=>.k r18)) (.bn (zel 1 a b r22.2 r22.1) fun r20=>.k r20)) (.bn (zel 1 a b r22.2 r22.1) fun r21=>.k r21)
def zeh (x:ttTlaw05AnnotationSimplification0) (y:Unit):Wy ttTlaw05AnnotationSimplification0 (Unit) (Bool):=zhI x.1 x.2.1
def zhD (n:Nat) (a:List Term) (b:List Term):Bool×Bool:=zN (zeh) default n (a,b,()) ()
def zkZ (r:Bool):LTree ty:=.done .ret [.lit (.bool r)] []
def zlC:LL ty ttTlaw05AnnotationSimplification0:=za (lSl 42) (za (lSl 42) zS)
def zlw:BL ty (Unit):=bNil
def zhH (a:List Term) (b:List Term) (h:Int) (d:List Term):Wy ttTlaw05AnnotationSimplification1 ttTlaw05AnnotationSimplification2 (Bool):=.i (h==0) (.bn (zik d) fun r30=>.i (r30.2 != 0) (.k false) (.bn (zca r30.1 d) fun r29=>.i (!r29) (.k false) (.i (!(Int.ofNat d.length==0)==(Int.ofNat a.length==0)) (.k false) (.bn (zhD 1 a b) fun r28=>.k r28)))) (.bn (zhD 1 a b) fun r31=>.k r31)
def zee (x:ttTlaw05AnnotationSimplification1) (y:ttTlaw05AnnotationSimplification2):Wy ttTlaw05AnnotationSimplification1 ttTlaw05AnnotationSimplification2 (Bool):=zhH x.1 x.2.1 x.2.2.2.1 y.1
def zlD (n:Nat) (a:List Term) (b:List Term) (h:Int) (d:List Term):Bool×Bool:=zN (zee) default n (a,b,(),h,()) (d,())
def zk2 (r:Bool):LTree ty:=.done .ret [.lit (.bool r)] []
def zlB:LL ty ttTlaw05AnnotationSimplification1:=za (lSl 42) (za (lSl 42) (za (lOwn 892) (za (lInt .i64) zS)))
def zlx:BL ty ttTlaw05AnnotationSimplification2:=bArr 42 false (bNil)
def zh2 (a:List Term) (b:List Term):Wy ttTlaw05AnnotationSimplification0 (Unit) (Bool):=.bn (ze1 a []) fun r41=>.bn (ze1 [] a) fun r40=>.bn (ze1 a a) fun r39=>.bn (zik a) fun r38=>.i (r41.2 != 0) (.k false) (.i (r40.2 != 0) (.k false) (.i (r39.2 != 0) (.k false) (.bn (zca r41.1 a) fun r37=>.i (!r37) (.k false) (.i (Int.ofNat r40.1.length != 0) (.k false) (.i (Int.ofNat r39.1.length != 0) (.k false) (.bn (zlD 1 a b r38.2 r38.1) fun r36=>.k r36))))))
def zeC (x:ttTlaw05AnnotationSimplification0) (y:Unit):Wy ttTlaw05AnnotationSimplification0 (Unit) (Bool):=zh2 x.1 x.2.1
def zmi (n:Nat) (a:List Term) (b:List Term):Bool×Bool:=zN (zeC) default n (a,b,()) ()
def zlK (r:Bool):LTree ty:=.done .ret [.lit (.bool r)] []
def zml:LL ty ttTlaw05AnnotationSimplification0:=za (lSl 42) (za (lSl 42) zS)
def zme:BL ty (Unit):=bNil
def zh3 (a:List Term) (b:List Term):Wy ttTlaw05AnnotationSimplification0 (Unit) (Bool):=.bn (zuy 60 [a,b]) fun r51=>.i (!r51) (.k true) (.bn (zbK a) fun r50=>.i (!r50) (.k true) (.bn (zbK b) fun r49=>.i (!r49) (.k true) (.bn (zmi 1 a b) fun r48=>.k r48)))
def zeD (x:ttTlaw05AnnotationSimplification0) (y:Unit):Wy ttTlaw05AnnotationSimplification0 (Unit) (Bool):=zh3 x.1 x.2.1
def zmh (n:Nat) (a:List Term) (b:List Term):Bool×Bool:=zN (zeD) default n (a,b,()) ()
def zlJ (r:Bool):LTree ty:=.done .ret [.lit (.bool r)] []
def zmd:LL ty ttTlaw05AnnotationSimplification0:=za (lSl 42) (za (lSl 42) zS)
def zmb:BL ty (Unit):=bNil
def zb3:Cx ty:=zMB base0 223 [(11,zAE),(12,zCH),(16,zmZ),(18,zk8),(20,zk5),(22,znQ),(29,zjT),(31,annotation_Valid_spec),(32,zkR)] [] [(3,[(0,.keep),(1,.keep)]),(5,[(0,.keep),(1,.keep)]),(11,[(0,.keep),(1,.keep),(11,.keep),(12,.keep)]),(15,[(0,.keep),(1,.keep)]),(18,[(0,.keep),(1,.keep),(15,.keep),(16,.keep)]),(22,[(0,.keep),(1,.keep)])] [(3,0,[(4,.keep)]),(5,0,[(4,.keep)]),(11,0,[(4,.keep)]),(15,0,[(4,.keep)]),(18,0,[(4,.keep)]),(22,0,[(4,.keep)])] [] [] [(22,spW zlq zlG (zei) default zk4 fun x y=>(1)),(18,spW zlr zls (zef) default zk6 fun x y=>(1)),(15,spW zlC zlw (zeh) default zkZ fun x y=>(1)),(11,spW zlB zlx (zee) default zk2 fun x y=>(1)),(5,spW zml zme (zeC) default zlK fun x y=>(1)),(3,spW zmd zmb (zeD) default zlJ fun x y=>(1))]
theorem zr0:zu4 zb3 (jn (body Tryz.f5) 22):=zwN (id:=22) (V:=zlq) (B:=zlG) (W:=zei) (z:=default) (tr:=zk4) (m:=fun x y=>(1))
theorem zrX:zu4 zb3 (jn (body Tryz.f5) 18):=zwN (id:=18) (V:=zlr) (B:=zls) (W:=zef) (z:=default) (tr:=zk6) (m:=fun x y=>(1))
theorem zr2:zu4 zb3 (jn (body Tryz.f5) 15):=zwN (id:=15) (V:=zlC) (B:=zlw) (W:=zeh) (z:=default) (tr:=zkZ) (m:=fun x y=>(1))
theorem zr5:zu4 zb3 (jn (body Tryz.f5) 11):=zwN (id:=11) (V:=zlB) (B:=zlx) (W:=zee) (z:=default) (tr:=zk2) (m:=fun x y=>(1))
theorem zsW:zu4 zb3 (jn (body Tryz.f5) 5):=zwN (id:=5) (V:=zml) (B:=zme) (W:=zeC) (z:=default) (tr:=zlK) (m:=fun x y=>(1))
theorem zsD:zu4 zb3 (jn (body Tryz.f5) 3):=zwN (id:=3) (V:=zmd) (B:=zmb) (W:=zeD) (z:=default) (tr:=zlJ) (m:=fun x y=>(1))
def zin (a:List Term) (b:List Term):Wy0 (Bool):=.bn (zmh 1 a b) fun r56=>.k r56
def zc6 (a:List Term) (b:List Term):Bool×Bool:=(zin a b).fin default
def zhJ (r:Bool):ARes ty:=⟨[.pure (.lit (.bool r))],[]⟩
def zmM:AL base0 ttTlaw05AnnotationSimplification0:=zf (zg (vSl 42)) (zf (zg (vSl 42)) aNil)
def zhc:Ab.Spec ty:=zr zmM fun x=>((zc6 x.1 x.2.1).1,zhJ (zc6 x.1 x.2.1).2)
theorem zrO:Sound Tryz.prog base0 5 zhc:=
 zD (cx':=zb3) zQ zim zPy (zOu ⟨zGc,zHZ.nodr,zpt,znX.nodr,znN.nodr,zsA.nodr,zlN.nodr,zcm.nodr,znZ.nodr,trivial⟩) Tryz.call5 Tryz.func5 (c:=body Tryz.f5) (by kernel_rfl) (zJI (l:=[]) (by kernel_rfl) trivial (js:=[jn (body Tryz.f5) 3,jn (body Tryz.f5) 5,jn (body Tryz.f5) 11,jn (body Tryz.f5) 15,jn (body Tryz.f5) 18,jn (body Tryz.f5) 22]) (by kernel_rfl) ⟨zsD,zsW,zr5,zr2,zrX,zr0,trivial⟩) (sg:=⟨[.pure],[]⟩) (A:=zmM) (res:=zhJ) (W:=fun x=>zin x.1 x.2.1) (z:=default)
def trV (v:Value):TT:=.l [.i v.Kind,.i v.Int,trB v.Text]
mutual
def zds:Atom→TT
 | ⟨k,r,a,f,i,o,b⟩=>.l [.i k,.i r.Table,.i r.Seq,.l (zp7 a),.i f,.l (zf5 i),.i o,trV b]
def zmW:Factor→TT
 | ⟨x,e⟩=>.l [zds x,.i e]
def zbo:List Factor→List TT
 | []=>[]
 | x::r=>zmW x::zbo r
def zrL:Term→TT
 | ⟨c,fs⟩=>.l [.l (zbo fs),.i c]
def zcG:List Term→List TT
 | []=>[]
 | x::r=>zrL x::zcG r
def zp7:List (List Term)→List TT
 | []=>[]
 | x::r=>.l (zcG x)::zp7 r
def ze6:Weighted→TT
 | ⟨v,a⟩=>.l [trV v,.l (zcG a)]
def zf5:List Weighted→List TT
 | []=>[]
 | x::r=>ze6 x::zf5 r
end
theorem zpP:∀ l,zbo l=l.map zmW
 | []=>by rw [zbo]; rfl
 | x::r=>by rw [zbo,zpP r]; rfl
theorem zxu:∀ l,zcG l=l.map zrL
 | []=>by rw [zcG]; rfl
 | x::r=>by rw [zcG,zxu r]; rfl
theorem zu1:∀ l,zp7 l=l.map fun x=>.l (zcG x)
 | []=>by rw [zp7]; rfl
 | x::r=>by rw [zp7,zu1 r]; rfl
theorem zn1:∀ l,zf5 l=l.map ze6
 | []=>by rw [zf5]; rfl
 | x::r=>by rw [zf5,zn1 r]; rfl
theorem zym:∀ a b:List UInt8,(a.map fun x=>TT.i (x.toNat:Int))=(b.map fun x=>TT.i (x.toNat:Int))→a=b
 | [],[]=>fun _=>rfl
 | [],_::_=>fun h=>by simp at h
 | _::_,[]=>fun h=>by simp at h
 | x::a,y::b=>fun h=>by
  simp only [List.map,List.cons.injEq,TT.i.injEq] at h
  rw [zym a b h.2,UInt8.toNat_inj.1 (Int.ofNat.inj h.1)]
theorem zMl {a b:Value} (h:trV a=trV b):a=b:=by
 obtain ⟨k,n,s⟩:=a; obtain ⟨k',n',s'⟩:=b
 simp only [trV,trB,TT.l.injEq,List.cons.injEq,TT.i.injEq,and_true] at h
 obtain ⟨rfl,rfl,h⟩:=h
 have:=zym _ _ h
 obtain ⟨⟨l⟩⟩:=s; obtain ⟨⟨l'⟩⟩:=s'
 simp only at this; subst this; rfl
mutual
theorem zHh:∀ a b:Atom,zds a=zds b→a=b
 | ⟨k,r,a,f,i,o,v⟩,⟨k',r',a',f',i',o',v'⟩=>fun h=>by
  simp only [zds,TT.l.injEq,List.cons.injEq,TT.i.injEq,and_true] at h
  obtain ⟨rfl,h1,h2,h3,rfl,h4,rfl,h5⟩:=h
  obtain ⟨t,s⟩:=r; obtain ⟨t',s'⟩:=r'
  simp only at h1 h2; subst h1 h2
  rw [zH4 a a' h3,zGk i i' h4,zMl h5]
theorem zKJ:∀ a b:Factor,zmW a=zmW b→a=b
 | ⟨x,e⟩,⟨x',e'⟩=>fun h=>by
  simp only [zmW,TT.l.injEq,List.cons.injEq,TT.i.injEq,and_true] at h
  rw [zHh x x' h.1,h.2]
theorem zyu:∀ a b:List Factor,zbo a=zbo b→a=b
 | [],[]=>fun _=>rfl
 | [],_::_=>fun h=>by simp [zbo] at h
 | _::_,[]=>fun h=>by simp [zbo] at h
 | x::a,y::b=>fun h=>by
  simp only [zbo,List.cons.injEq] at h
  rw [zKJ x y h.1,zyu a b h.2]
theorem zM3:∀ a b:Term,zrL a=zrL b→a=b
 | ⟨c,l⟩,⟨c',l'⟩=>fun h=>by
  simp only [zrL,TT.l.injEq,List.cons.injEq,TT.i.injEq,and_true] at h
  rw [zyu l l' h.1,h.2]
theorem zx9:∀ a b:List Term,zcG a=zcG b→a=b
 | [],[]=>fun _=>rfl
 | [],_::_=>fun h=>by simp [zcG] at h
 | _::_,[]=>fun h=>by simp [zcG] at h
 | x::a,y::b=>fun h=>by
  simp only [zcG,List.cons.injEq] at h
  rw [zM3 x y h.1,zx9 a b h.2]
theorem zH4:∀ a b:List (List Term),zp7 a=zp7 b→a=b
 | [],[]=>fun _=>rfl
 | [],_::_=>fun h=>by simp [zp7] at h
 | _::_,[]=>fun h=>by simp [zp7] at h
 | x::a,y::b=>fun h=>by
  simp only [zp7,List.cons.injEq,TT.l.injEq] at h
  rw [zx9 x y h.1,zH4 a b h.2]
theorem zNg:∀ a b:Weighted,ze6 a=ze6 b→a=b
 | ⟨c,l⟩,⟨c',l'⟩=>fun h=>by
  simp only [ze6,TT.l.injEq,List.cons.injEq,and_true] at h
  rw [zMl h.1,zx9 l l' h.2]
theorem zGk:∀ a b:List Weighted,zf5 a=zf5 b→a=b
 | [],[]=>fun _=>rfl
 | [],_::_=>fun h=>by simp [zf5] at h
 | _::_,[]=>fun h=>by simp [zf5] at h
 | x::a,y::b=>fun h=>by
  simp only [zf5,List.cons.injEq] at h
  rw [zNg x y h.1,zGk a b h.2]
end
def zc8 (P:List Term→Prop) (x:Atom):Prop:=
 (x.Args.length≤1000000∧x.Items.length≤1000000∧x.Bound.Text.size≤1000000000000)∧(∀ a∈x.Args,P a)∧∀ w∈x.Items,w.Value.Text.size≤1000000000000∧P w.Ann
def zfm (P:List Term→Prop) (l:List Factor):Prop:=l.length≤1000000∧∀ f∈l,zc8 P f.Atom
def zy:Nat→List Term→Prop
 | 0,_=>False
 | n+1,a=>a.length≤1000000∧∀ t∈a,zfm (zy n) t.Factors
theorem zc8.imp {P Q:List Term→Prop} (h:∀ a,P a→Q a) {x:Atom} (hx:zc8 P x):zc8 Q x:=⟨hx.1,fun a ha=>h a (hx.2.1 a ha),fun w hw=>⟨(hx.2.2 w hw).1,h _ (hx.2.2 w hw).2⟩⟩
theorem zy.succ:∀ (n:Nat) (a:List Term),zy n a→zy (n+1) a
 | 0,_,h=>h.elim
 | n+1,a,h=>⟨h.1,fun t ht=>⟨(h.2 t ht).1,fun f hf=>((h.2 t ht).2 f hf).imp (zy.succ n)⟩⟩
theorem zy.mono {n m:Nat} {a:List Term} (h:zy n a) (hm:n≤m):zy m a:=by
 obtain ⟨k,rfl⟩:=Nat.exists_eq_add_of_le hm
 clear hm
 induction k with
 | zero=>exact h
 | succ k ih=>exact zy.succ _ _ ih
end Go.Proofs.YtnolcogncjijpaaGreatDoor
end
