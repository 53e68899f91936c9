/- Texts of this claim, joined (the program, its functions in plain words, and what they compute). -/
import Derived.Test.YtnolcogncjijpaaGreatDoorGC1
import Derived.Test.YtnolcogncjijpaaGreatDoorGA2
set_option autoImplicit false
set_option linter.unusedVariables false
set_option linter.unusedSectionVars false
set_option linter.unusedSimpArgs false
set_option maxRecDepth 1000000
set_option maxHeartbeats 0
noncomputable section
namespace Go.Proofs.YtnolcogncjijpaaGreatDoor
open Go Go.Ab
abbrev ttTannotationSize0:=Int×Unit×List Term×Int×Int×List Factor×Int×Int×List (List Term)×Int×Int×Unit
abbrev ttTannotationSize1:=Int×List Term×Int×Int×List Factor×Int×Int×Factor
abbrev ttTannotationSize2:=Int×List Term×Int×Int×List Factor×Int×Int×List Weighted×Int×Int×Unit
abbrev ttTannotationSize3:=Int×List Term×Int×Int×List Factor×Int×Int
abbrev ttTannotationSize4:=Int×List Term×Int×Int×List Factor×Int×Int×Unit
abbrev ttTannotationSize5:=Int×List Term×Int×Int
abbrev ttTannotationSize6:=Int×List Term×Int×Int×Unit
def ziN (zk:List Term→Bool×Int) (n_:Int) (t12:List Term) (t13:Int) (t14:Int) (t25:List Factor) (t26:Int) (t27:Int) (t33:List (List Term)) (t34:Int) (t35:Int) (f:Factor):Wy ttTannotationSize0 (Factor×Unit) ttTannotationSize1:=.i (decide (t35<t34)) (.i (decide (0≤t35)&&decide (t35<Int.ofNat t33.length)) (.bn (zk (t33.getD t35.toNat default)) fun r0=>.h ((IntKind.i64.wrap (n_+r0)),(),t12,t13,t14,t25,t26,t27,t33,t34,(IntKind.i64.wrap (t35+1)),()) (f,())) .d) (.k (n_,t12,t13,t14,t25,t26,t27,f))
def zli (zk:List Term→Bool×Int) (x:ttTannotationSize0) (y:Factor×Unit):Wy ttTannotationSize0 (Factor×Unit) ttTannotationSize1:=ziN zk x.1 x.2.2.1 x.2.2.2.1 x.2.2.2.2.1 x.2.2.2.2.2.1 x.2.2.2.2.2.2.1 x.2.2.2.2.2.2.2.1 x.2.2.2.2.2.2.2.2.1 x.2.2.2.2.2.2.2.2.2.1 x.2.2.2.2.2.2.2.2.2.2.1 y.1
def zu9 (zk:List Term→Bool×Int) (n:Nat) (n_:Int) (t12:List Term) (t13:Int) (t14:Int) (t25:List Factor) (t26:Int) (t27:Int) (t33:List (List Term)) (t34:Int) (t35:Int) (f:Factor):Bool×ttTannotationSize1:=zQ (zli zk) default n (n_,(),t12,t13,t14,t25,t26,t27,t33,t34,t35,()) (f,())
def zuf (r:ttTannotationSize1):LTree ty:=.done (.exit 4) [.lit (.int .i64 r.1),.ptr 248 0,.sl 42 r.2.1,.lit (.int .i64 r.2.2.1),.lit (.int .i64 r.2.2.2.1),.sl 50 r.2.2.2.2.1,.lit (.int .i64 r.2.2.2.2.2.1),.lit (.int .i64 r.2.2.2.2.2.2.1)] [.box (base.enc 50 r.2.2.2.2.2.2.2) false]
def zvk:LL ty ttTannotationSize0:=zb (lInt .i64) (zb (zrG 248 0) (zb (lSl 42) (zb (lInt .i64) (zb (lInt .i64) (zb (lSl 50) (zb (lInt .i64) (zb (lInt .i64) (zb (lSl 23) (zb (lInt .i64) (zb (lInt .i64) zX))))))))))
def zvI:BL ty (Factor×Unit):=bBox (zuG (fun x=>(⟨⟨x.1,⟨x.2.1,x.2.2.1⟩,x.2.2.2.1,x.2.2.2.2.1,x.2.2.2.2.2.1,x.2.2.2.2.2.2.1,⟨x.2.2.2.2.2.2.2.1,x.2.2.2.2.2.2.2.2.1,x.2.2.2.2.2.2.2.2.2.1⟩⟩,x.2.2.2.2.2.2.2.2.2.2.1⟩:Factor)) (fun x=>(x.Atom.Kind,x.Atom.Row.Table,x.Atom.Row.Seq,x.Atom.Args,x.Atom.Func,x.Atom.Items,x.Atom.Op,x.Atom.Bound.Kind,x.Atom.Bound.Int,x.Atom.Bound.Text,x.Exp,())) (fun _=>rfl) (zb (lInt .i64) (zb (lInt .i64) (zb (lInt .i64) (zb (lSl 23) (zb (lInt .i64) (zb (lSl 52) (zb (lInt .i64) (zb (lInt .i64) (zb (lInt .i64) (zb lStr (zb (lInt .i64) zX)))))))))))) false (bNil)
def ziT (zk:List Term→Bool×Int) (n_:Int) (t12:List Term) (t13:Int) (t14:Int) (t25:List Factor) (t26:Int) (t27:Int) (t46:List Weighted) (t47:Int) (t48:Int):Wy ttTannotationSize2 (Unit) ttTannotationSize3:=.i (decide (t48<t47)) (.i (decide (0≤t48)&&decide (t48<Int.ofNat t46.length)) (.bn (zk (t46.getD t48.toNat default).Ann) fun r2=>.h ((IntKind.i64.wrap (n_+IntKind.i64.wrap (1+r2))),t12,t13,t14,t25,t26,t27,t46,t47,(IntKind.i64.wrap (t48+1)),()) ()) .d) (.k (n_,t12,t13,t14,t25,t26,t27))
def zln (zk:List Term→Bool×Int) (x:ttTannotationSize2) (y:Unit):Wy ttTannotationSize2 (Unit) ttTannotationSize3:=ziT zk x.1 x.2.1 x.2.2.1 x.2.2.2.1 x.2.2.2.2.1 x.2.2.2.2.2.1 x.2.2.2.2.2.2.1 x.2.2.2.2.2.2.2.1 x.2.2.2.2.2.2.2.2.1 x.2.2.2.2.2.2.2.2.2.1
def zvt (zk:List Term→Bool×Int) (n:Nat) (n_:Int) (t12:List Term) (t13:Int) (t14:Int) (t25:List Factor) (t26:Int) (t27:Int) (t46:List Weighted) (t47:Int) (t48:Int):Bool×ttTannotationSize3:=zQ (zln zk) default n (n_,t12,t13,t14,t25,t26,t27,t46,t47,t48,()) ()
def zuw (r:ttTannotationSize3):LTree ty:=.done (.exit 6) [.lit (.int .i64 r.1),.sl 42 r.2.1,.lit (.int .i64 r.2.2.1),.lit (.int .i64 r.2.2.2.1),.sl 50 r.2.2.2.2.1,.lit (.int .i64 r.2.2.2.2.2.1),.lit (.int .i64 r.2.2.2.2.2.2)] []
def zvu:LL ty ttTannotationSize2:=zb (lInt .i64) (zb (lSl 42) (zb (lInt .i64) (zb (lInt .i64) (zb (lSl 50) (zb (lInt .i64) (zb (lInt .i64) (zb (lSl 52) (zb (lInt .i64) (zb (lInt .i64) zX)))))))))
def zvH:BL ty (Unit):=bNil
def zjB (zk:List Term→Bool×Int) (n_:Int) (t12:List Term) (t13:Int) (t14:Int) (t25:List Factor) (t26:Int) (t27:Int):Wy ttTannotationSize4 (Unit) ttTannotationSize5:=.i (decide (t27<t26)) (.i (decide (0≤t27)&&decide (t27<Int.ofNat t25.length)) (.bn (zu9 zk ((n_.toNat +t12.length+t13.toNat +t14.toNat +t25.length+t26.toNat +t27.toNat +(t25.getD t27.toNat default).Atom.Args.length+(Int.ofNat (t25.getD t27.toNat default).Atom.Args.length).toNat +Int.toNat 0+1)+(FactorOf.mk (Atom.mk (t25.getD t27.toNat default).Atom.Kind (t25.getD t27.toNat default).Atom.Row (t25.getD t27.toNat default).Atom.Args (t25.getD t27.toNat default).Atom.Func (t25.getD t27.toNat default).Atom.Items (t25.getD t27.toNat default).Atom.Op (t25.getD t27.toNat default).Atom.Bound) (t25.getD t27.toNat default).Exp).Atom.Args.length+(FactorOf.mk (Atom.mk (t25.getD t27.toNat default).Atom.Kind (t25.getD t27.toNat default).Atom.Row (t25.getD t27.toNat default).Atom.Args (t25.getD t27.toNat default).Atom.Func (t25.getD t27.toNat default).Atom.Items (t25.getD t27.toNat default).Atom.Op (t25.getD t27.toNat default).Atom.Bound) (t25.getD t27.toNat default).Exp).Atom.Items.length) n_ t12 t13 t14 t25 t26 t27 (t25.getD t27.toNat default).Atom.Args (Int.ofNat (t25.getD t27.toNat default).Atom.Args.length) 0 (FactorOf.mk (Atom.mk (t25.getD t27.toNat default).Atom.Kind (t25.getD t27.toNat default).Atom.Row (t25.getD t27.toNat default).Atom.Args (t25.getD t27.toNat default).Atom.Func (t25.getD t27.toNat default).Atom.Items (t25.getD t27.toNat default).Atom.Op (t25.getD t27.toNat default).Atom.Bound) (t25.getD t27.toNat default).Exp)) fun r5=>.bn (zvt zk (r5.1.toNat +r5.2.1.length+r5.2.2.1.toNat +r5.2.2.2.1.toNat +r5.2.2.2.2.1.length+r5.2.2.2.2.2.1.toNat +r5.2.2.2.2.2.2.1.toNat +r5.2.2.2.2.2.2.2.Atom.Items.length+(Int.ofNat r5.2.2.2.2.2.2.2.Atom.Items.length).toNat +Int.toNat 0+1) r5.1 r5.2.1 r5.2.2.1 r5.2.2.2.1 r5.2.2.2.2.1 r5.2.2.2.2.2.1 r5.2.2.2.2.2.2.1 r5.2.2.2.2.2.2.2.Atom.Items (Int.ofNat r5.2.2.2.2.2.2.2.Atom.Items.length) 0) fun r4=>.h ((r4.1),(r4.2.1),(r4.2.2.1),(r4.2.2.2.1),(r4.2.2.2.2.1),(r4.2.2.2.2.2.1),(IntKind.i64.wrap (r4.2.2.2.2.2.2+1)),()) ()) .d) (.k (n_,t12,t13,t14))
def zma (zk:List Term→Bool×Int) (x:ttTannotationSize4) (y:Unit):Wy ttTannotationSize4 (Unit) ttTannotationSize5:=zjB zk x.1 x.2.1 x.2.2.1 x.2.2.2.1 x.2.2.2.2.1 x.2.2.2.2.2.1 x.2.2.2.2.2.2.1
def zvV (zk:List Term→Bool×Int) (n:Nat) (n_:Int) (t12:List Term) (t13:Int) (t14:Int) (t25:List Factor) (t26:Int) (t27:Int):Bool×ttTannotationSize5:=zQ (zma zk) default n (n_,t12,t13,t14,t25,t26,t27,()) ()
def zvg (r:ttTannotationSize5):LTree ty:=.done (.exit 2) [.lit (.int .i64 r.1),.sl 42 r.2.1,.lit (.int .i64 r.2.2.1),.lit (.int .i64 r.2.2.2)] []
def zwo:LL ty ttTannotationSize4:=zb (lInt .i64) (zb (lSl 42) (zb (lInt .i64) (zb (lInt .i64) (zb (lSl 50) (zb (lInt .i64) (zb (lInt .i64) zX))))))
def zv2:BL ty (Unit):=bNil
def zjv (zk:List Term→Bool×Int) (n_:Int) (t12:List Term) (t13:Int) (t14:Int):Wy ttTannotationSize6 (Unit) (Int):=.i (decide (t14<t13)) (.i (decide (0≤t14)&&decide (t14<Int.ofNat t12.length)) (.bn (zvV zk ((IntKind.i64.wrap (n_+IntKind.i64.wrap (1+Int.ofNat (t12.getD t14.toNat default).Factors.length))).toNat +t12.length+t13.toNat +t14.toNat +(t12.getD t14.toNat default).Factors.length+(Int.ofNat (t12.getD t14.toNat default).Factors.length).toNat +Int.toNat 0+1) (IntKind.i64.wrap (n_+IntKind.i64.wrap (1+Int.ofNat (t12.getD t14.toNat default).Factors.length))) t12 t13 t14 (t12.getD t14.toNat default).Factors (Int.ofNat (t12.getD t14.toNat default).Factors.length) 0) fun r8=>.h ((r8.1),(r8.2.1),(r8.2.2.1),(IntKind.i64.wrap (r8.2.2.2+1)),()) ()) .d) (.k n_)
def zmj (zk:List Term→Bool×Int) (x:ttTannotationSize6) (y:Unit):Wy ttTannotationSize6 (Unit) (Int):=zjv zk x.1 x.2.1 x.2.2.1 x.2.2.2.1
def zv7 (zk:List Term→Bool×Int) (n:Nat) (n_:Int) (t12:List Term) (t13:Int) (t14:Int):Bool×Int:=zQ (zmj zk) default n (n_,t12,t13,t14,()) ()
def zvn (r:Int):LTree ty:=.done (.exit 0) [.lit (.int .i64 r)] []
def zwJ:LL ty ttTannotationSize6:=zb (lInt .i64) (zb (lSl 42) (zb (lInt .i64) (zb (lInt .i64) zX)))
def zv8:BL ty (Unit):=bNil
def zur (x:ttTannotationSize0) (y:Factor×Unit):Nat:=((Int.toNat x.1+x.2.2.1.length+Int.toNat x.2.2.2.1+Int.toNat x.2.2.2.2.1+x.2.2.2.2.2.1.length+Int.toNat x.2.2.2.2.2.2.1+Int.toNat x.2.2.2.2.2.2.2.1+x.2.2.2.2.2.2.2.2.1.length+Int.toNat x.2.2.2.2.2.2.2.2.2.1+Int.toNat x.2.2.2.2.2.2.2.2.2.2.1+1)+y.1.Atom.Args.length+y.1.Atom.Items.length)
def zum (x:ttTannotationSize2) (y:Unit):Nat:=(Int.toNat x.1+x.2.1.length+Int.toNat x.2.2.1+Int.toNat x.2.2.2.1+x.2.2.2.2.1.length+Int.toNat x.2.2.2.2.2.1+Int.toNat x.2.2.2.2.2.2.1+x.2.2.2.2.2.2.2.1.length+Int.toNat x.2.2.2.2.2.2.2.2.1+Int.toNat x.2.2.2.2.2.2.2.2.2.1+1)
def zvc (x:ttTannotationSize4) (y:Unit):Nat:=(Int.toNat x.1+x.2.1.length+Int.toNat x.2.2.1+Int.toNat x.2.2.2.1+x.2.2.2.2.1.length+Int.toNat x.2.2.2.2.2.1+Int.toNat x.2.2.2.2.2.2.1+1)
def zu3 (x:ttTannotationSize6) (y:Unit):Nat:=(Int.toNat x.1+x.2.1.length+Int.toNat x.2.2.1+Int.toNat x.2.2.2.1+1)
def zjH (zk:List Term→Bool×Int):Cx ty:=mkCx base 62 [(47,(zlS zk))] [] [(3,[(3,.keep),(12,.keep),(13,.keep),(14,.keep)]),(7,[(3,.keep),(12,.keep),(13,.keep),(14,.keep),(25,.keep),(26,.keep),(27,.keep)]),(10,[(3,.keep),(7,.keep),(12,.keep),(13,.keep),(14,.keep),(25,.keep),(26,.keep),(27,.keep),(33,.keep),(34,.keep),(35,.keep)]),(15,[(3,.keep),(12,.keep),(13,.keep),(14,.keep),(25,.keep),(26,.keep),(27,.keep),(46,.keep),(47,.keep),(48,.keep)])] [(3,1,[(3,.keep)]),(7,3,[(3,.keep),(12,.keep),(13,.keep),(14,.keep)]),(10,5,[(3,.keep),(7,.keep),(12,.keep),(13,.keep),(14,.keep),(25,.keep),(26,.keep),(27,.keep)]),(15,7,[(3,.keep),(12,.keep),(13,.keep),(14,.keep),(25,.keep),(26,.keep),(27,.keep)])] [(10,spW zvk zvI (zli zk) default zuf zur),(15,spW zvu zvH (zln zk) default zuw zum),(7,spW zwo zv2 (zma zk) default zvg zvc),(3,spW zwJ zv8 (zmj zk) default zvn zu3)] []
theorem zDJ (zk:List Term→Bool×Int):zbv (zjH zk) (lp (body Tryz.f47) 2):=zbc (id:=10) (V:=zvk) (B:=zvI) (W:=zli zk) (z:=default) (tr:=zuf) (m:=zur)
theorem zDF (zk:List Term→Bool×Int):zbv (zjH zk) (lp (body Tryz.f47) 3):=zbc (id:=15) (V:=zvu) (B:=zvH) (W:=zln zk) (z:=default) (tr:=zuw) (m:=zum)
theorem zE3 (zk:List Term→Bool×Int):zbv (zjH zk) (lp (body Tryz.f47) 1):=zbc (id:=7) (V:=zwo) (B:=zv2) (W:=zma zk) (z:=default) (tr:=zvg) (m:=zvc)
theorem zEp (zk:List Term→Bool×Int):zbv (zjH zk) (lp (body Tryz.f47) 0):=zbc (id:=3) (V:=zwJ) (B:=zv8) (W:=zmj zk) (z:=default) (tr:=zvn) (m:=zu3)
def zq6 (zk:List Term→Bool×Int) (a:List Term):Wy0 (Int):=.bn (zv7 zk (Int.toNat 0+a.length+(Int.ofNat a.length).toNat +Int.toNat 0+1) 0 a (Int.ofNat a.length) 0) fun r10=>.k r10
def zoY (zk:List Term→Bool×Int) (a:List Term):Bool×Int:=(zq6 zk a).fin default
theorem zCD (zk:List Term→Bool×Int) (zGR:Sound Tryz.prog base 47 (zlS zk)):Sound Tryz.prog base 47 (zlS (zoY zk)):=
 zH (cx':=(zjH zk)) zT zD zN (zG ⟨zGR,trivial⟩) Tryz.call47 Tryz.func47 (c:=body Tryz.f47) (by kernel_rfl) (zj (l:=[lp (body Tryz.f47) 0,lp (body Tryz.f47) 1,lp (body Tryz.f47) 2,lp (body Tryz.f47) 3]) (by kernel_rfl) ⟨zEp zk,zE3 zk,zDJ zk,zDF zk,trivial⟩) (sg:=⟨[.pure],[]⟩) (A:=zAF) (res:=zxf) (W:=fun x=>zq6 zk x.1) (z:=default)
def zPh:Nat→(List Term→Bool×Int)
 | 0=>fun _=>(false,default)
 | n+1=>zoY (zPh n)
def zjK (n:Nat):List Term→Bool×Int:=zPh n
theorem zFB (n:Nat):zjK (n+1)=zoY (zjK n):=rfl
theorem zLk:∀ n,Sound Tryz.prog base 47 (zlS (zjK n))
 | 0=>zbH Tryz.call47 (fun _=>rfl)
 | n+1=>by
  have ih:=zLk n
  exact zCD _ (ih)
def zwl:List Term→Bool×Int:=zjK 1000
def annotation_Size_spec:Ab.Spec ty:=zlS zwl
theorem zD7:Sound Tryz.prog base 47 annotation_Size_spec:=(zLk 1000)
def zt0 (r:Int):ARes ty:=⟨[.pure (.lit (.int .i64 r))],[]⟩
def zwr:AL base (List Term×Unit):=zf (zg (vSl 42)) aNil
def zjC (F:List Term→Bool×Int):Ab.Spec ty:=zu zwr fun x=>((F x.1).1,zt0 (F x.1).2)
abbrev ttTannotationnesting0:=Int×Unit×Int×List Term×Int×Int×List Factor×Int×Int×List (List Term)×Int×Int×Unit
abbrev ttTannotationnesting1:=Int×Int×List Term×Int×Int×List Factor×Int×Int×Factor
abbrev ttTannotationnesting2:=Int×Int×List Term×Int×Int×List Factor×Int×Int×List Weighted×Int×Int×Unit
abbrev ttTannotationnesting3:=Int×Int×List Term×Int×Int×List Factor×Int×Int
abbrev ttTannotationnesting4:=Int×List Term×Int×Int×List Factor×Int×Int×Unit
abbrev ttTannotationnesting5:=Int×List Term×Int×Int
abbrev ttTannotationnesting6:=Int×List Term×Int×Int×Unit
def zg4 (zh:List Term→Bool×Int) (n_:Int) (inner:Int) (t13:List Term) (t14:Int) (t15:Int) (t20:List Factor) (t21:Int) (t22:Int) (t32:List (List Term)) (t33:Int) (t34:Int) (f:Factor):Wy ttTannotationnesting0 (Factor×Unit) ttTannotationnesting1:=.i (decide (t34<t33)) (.i (decide (0≤t34)&&decide (t34<Int.ofNat t32.length)) (.bn (zh (t32.getD t34.toNat default)) fun r0=>.h (n_,(),(if r0>inner then r0 else inner),t13,t14,t15,t20,t21,t22,t32,t33,(IntKind.i64.wrap (t34+1)),()) (f,())) .d) (.k (n_,inner,t13,t14,t15,t20,t21,t22,f))
def zjd (zh:List Term→Bool×Int) (x:ttTannotationnesting0) (y:Factor×Unit):Wy ttTannotationnesting0 (Factor×Unit) ttTannotationnesting1:=zg4 zh x.1 x.2.2.1 x.2.2.2.1 x.2.2.2.2.1 x.2.2.2.2.2.1 x.2.2.2.2.2.2.1 x.2.2.2.2.2.2.2.1 x.2.2.2.2.2.2.2.2.1 x.2.2.2.2.2.2.2.2.2.1 x.2.2.2.2.2.2.2.2.2.2.1 x.2.2.2.2.2.2.2.2.2.2.2.1 y.1
def zsJ (zh:List Term→Bool×Int) (n:Nat) (n_:Int) (inner:Int) (t13:List Term) (t14:Int) (t15:Int) (t20:List Factor) (t21:Int) (t22:Int) (t32:List (List Term)) (t33:Int) (t34:Int) (f:Factor):Bool×ttTannotationnesting1:=zQ (zjd zh) default n (n_,(),inner,t13,t14,t15,t20,t21,t22,t32,t33,t34,()) (f,())
def zrq (r:ttTannotationnesting1):LTree ty:=.done (.exit 4) [.lit (.int .i64 r.1),.ptr 256 0,.lit (.int .i64 r.2.1),.sl 42 r.2.2.1,.lit (.int .i64 r.2.2.2.1),.lit (.int .i64 r.2.2.2.2.1),.sl 50 r.2.2.2.2.2.1,.lit (.int .i64 r.2.2.2.2.2.2.1),.lit (.int .i64 r.2.2.2.2.2.2.2.1)] [.box (base.enc 50 r.2.2.2.2.2.2.2.2) false]
def zsj:LL ty ttTannotationnesting0:=zb (lInt .i64) (zb (zrG 256 0) (zb (lInt .i64) (zb (lSl 42) (zb (lInt .i64) (zb (lInt .i64) (zb (lSl 50) (zb (lInt .i64) (zb (lInt .i64) (zb (lSl 23) (zb (lInt .i64) (zb (lInt .i64) zX)))))))))))
def zst:BL ty (Factor×Unit):=bBox (zuG (fun x=>(⟨⟨x.1,⟨x.2.1,x.2.2.1⟩,x.2.2.2.1,x.2.2.2.2.1,x.2.2.2.2.2.1,x.2.2.2.2.2.2.1,⟨x.2.2.2.2.2.2.2.1,x.2.2.2.2.2.2.2.2.1,x.2.2.2.2.2.2.2.2.2.1⟩⟩,x.2.2.2.2.2.2.2.2.2.2.1⟩:Factor)) (fun x=>(x.Atom.Kind,x.Atom.Row.Table,x.Atom.Row.Seq,x.Atom.Args,x.Atom.Func,x.Atom.Items,x.Atom.Op,x.Atom.Bound.Kind,x.Atom.Bound.Int,x.Atom.Bound.Text,x.Exp,())) (fun _=>rfl) (zb (lInt .i64) (zb (lInt .i64) (zb (lInt .i64) (zb (lSl 23) (zb (lInt .i64) (zb (lSl 52) (zb (lInt .i64) (zb (lInt .i64) (zb (lInt .i64) (zb lStr (zb (lInt .i64) zX)))))))))))) false (bNil)
def zgP (zh:List Term→Bool×Int) (n_:Int) (inner:Int) (t13:List Term) (t14:Int) (t15:Int) (t20:List Factor) (t21:Int) (t22:Int) (t45:List Weighted) (t46:Int) (t47:Int):Wy ttTannotationnesting2 (Unit) ttTannotationnesting3:=.i (decide (t47<t46)) (.i (decide (0≤t47)&&decide (t47<Int.ofNat t45.length)) (.bn (zh (t45.getD t47.toNat default).Ann) fun r2=>.h (n_,(if r2>inner then r2 else inner),t13,t14,t15,t20,t21,t22,t45,t46,(IntKind.i64.wrap (t47+1)),()) ()) .d) (.k (n_,inner,t13,t14,t15,t20,t21,t22))
def zjr (zh:List Term→Bool×Int) (x:ttTannotationnesting2) (y:Unit):Wy ttTannotationnesting2 (Unit) ttTannotationnesting3:=zgP zh x.1 x.2.1 x.2.2.1 x.2.2.2.1 x.2.2.2.2.1 x.2.2.2.2.2.1 x.2.2.2.2.2.2.1 x.2.2.2.2.2.2.2.1 x.2.2.2.2.2.2.2.2.1 x.2.2.2.2.2.2.2.2.2.1 x.2.2.2.2.2.2.2.2.2.2.1
def zr9 (zh:List Term→Bool×Int) (n:Nat) (n_:Int) (inner:Int) (t13:List Term) (t14:Int) (t15:Int) (t20:List Factor) (t21:Int) (t22:Int) (t45:List Weighted) (t46:Int) (t47:Int):Bool×ttTannotationnesting3:=zQ (zjr zh) default n (n_,inner,t13,t14,t15,t20,t21,t22,t45,t46,t47,()) ()
def zrE (r:ttTannotationnesting3):LTree ty:=.done (.exit 6) [.lit (.int .i64 r.1),.lit (.int .i64 r.2.1),.sl 42 r.2.2.1,.lit (.int .i64 r.2.2.2.1),.lit (.int .i64 r.2.2.2.2.1),.sl 50 r.2.2.2.2.2.1,.lit (.int .i64 r.2.2.2.2.2.2.1),.lit (.int .i64 r.2.2.2.2.2.2.2)] []
def zr5:LL ty ttTannotationnesting2:=zb (lInt .i64) (zb (lInt .i64) (zb (lSl 42) (zb (lInt .i64) (zb (lInt .i64) (zb (lSl 50) (zb (lInt .i64) (zb (lInt .i64) (zb (lSl 52) (zb (lInt .i64) (zb (lInt .i64) zX))))))))))
def zrZ:BL ty (Unit):=bNil
def zhW (zh:List Term→Bool×Int) (n_:Int) (t13:List Term) (t14:Int) (t15:Int) (t20:List Factor) (t21:Int) (t22:Int):Wy ttTannotationnesting4 (Unit) ttTannotationnesting5:=.i (decide (t22<t21)) (.i (decide (0≤t22)&&decide (t22<Int.ofNat t20.length)) (.i ((t20.getD t22.toNat default).Atom.Kind==0) (.h (n_,t13,t14,t15,t20,t21,(IntKind.i64.wrap (t22+1)),()) ()) (.bn (zsJ zh ((n_.toNat +Int.toNat 0+t13.length+t14.toNat +t15.toNat +t20.length+t21.toNat +t22.toNat +(t20.getD t22.toNat default).Atom.Args.length+(Int.ofNat (t20.getD t22.toNat default).Atom.Args.length).toNat +Int.toNat 0+1)+(FactorOf.mk (Atom.mk (t20.getD t22.toNat default).Atom.Kind (t20.getD t22.toNat default).Atom.Row (t20.getD t22.toNat default).Atom.Args (t20.getD t22.toNat default).Atom.Func (t20.getD t22.toNat default).Atom.Items (t20.getD t22.toNat default).Atom.Op (t20.getD t22.toNat default).Atom.Bound) (t20.getD t22.toNat default).Exp).Atom.Args.length+(FactorOf.mk (Atom.mk (t20.getD t22.toNat default).Atom.Kind (t20.getD t22.toNat default).Atom.Row (t20.getD t22.toNat default).Atom.Args (t20.getD t22.toNat default).Atom.Func (t20.getD t22.toNat default).Atom.Items (t20.getD t22.toNat default).Atom.Op (t20.getD t22.toNat default).Atom.Bound) (t20.getD t22.toNat default).Exp).Atom.Items.length) n_ 0 t13 t14 t15 t20 t21 t22 (t20.getD t22.toNat default).Atom.Args (Int.ofNat (t20.getD t22.toNat default).Atom.Args.length) 0 (FactorOf.mk (Atom.mk (t20.getD t22.toNat default).Atom.Kind (t20.getD t22.toNat default).Atom.Row (t20.getD t22.toNat default).Atom.Args (t20.getD t22.toNat default).Atom.Func (t20.getD t22.toNat default).Atom.Items (t20.getD t22.toNat default).Atom.Op (t20.getD t22.toNat default).Atom.Bound) (t20.getD t22.toNat default).Exp)) fun r5=>.bn (zr9 zh (r5.1.toNat +r5.2.1.toNat +r5.2.2.1.length+r5.2.2.2.1.toNat +r5.2.2.2.2.1.toNat +r5.2.2.2.2.2.1.length+r5.2.2.2.2.2.2.1.toNat +r5.2.2.2.2.2.2.2.1.toNat +r5.2.2.2.2.2.2.2.2.Atom.Items.length+(Int.ofNat r5.2.2.2.2.2.2.2.2.Atom.Items.length).toNat +Int.toNat 0+1) r5.1 r5.2.1 r5.2.2.1 r5.2.2.2.1 r5.2.2.2.2.1 r5.2.2.2.2.2.1 r5.2.2.2.2.2.2.1 r5.2.2.2.2.2.2.2.1 r5.2.2.2.2.2.2.2.2.Atom.Items (Int.ofNat r5.2.2.2.2.2.2.2.2.Atom.Items.length) 0) fun r4=>.h ((if IntKind.i64.wrap (1+r4.2.1)>r4.1 then IntKind.i64.wrap (1+r4.2.1) else r4.1),(r4.2.2.1),(r4.2.2.2.1),(r4.2.2.2.2.1),(r4.2.2.2.2.2.1),(r4.2.2.2.2.2.2.1),(IntKind.i64.wrap (r4.2.2.2.2.2.2.2+1)),()) ())) .d) (.k (n_,t13,t14,t15))
def zka (zh:List Term→Bool×Int) (x:ttTannotationnesting4) (y:Unit):Wy ttTannotationnesting4 (Unit) ttTannotationnesting5:=zhW zh x.1 x.2.1 x.2.2.1 x.2.2.2.1 x.2.2.2.2.1 x.2.2.2.2.2.1 x.2.2.2.2.2.2.1
def ztl (zh:List Term→Bool×Int) (n:Nat) (n_:Int) (t13:List Term) (t14:Int) (t15:Int) (t20:List Factor) (t21:Int) (t22:Int):Bool×ttTannotationnesting5:=zQ (zka zh) default n (n_,t13,t14,t15,t20,t21,t22,()) ()
def zsT (r:ttTannotationnesting5):LTree ty:=.done (.exit 2) [.lit (.int .i64 r.1),.sl 42 r.2.1,.lit (.int .i64 r.2.2.1),.lit (.int .i64 r.2.2.2)] []
def ztt:LL ty ttTannotationnesting4:=zb (lInt .i64) (zb (lSl 42) (zb (lInt .i64) (zb (lInt .i64) (zb (lSl 50) (zb (lInt .i64) (zb (lInt .i64) zX))))))
def ztA:BL ty (Unit):=bNil
def zh0 (zh:List Term→Bool×Int) (n_:Int) (t13:List Term) (t14:Int) (t15:Int):Wy ttTannotationnesting6 (Unit) (Int):=.i (decide (t15<t14)) (.i (decide (0≤t15)&&decide (t15<Int.ofNat t13.length)) (.bn (ztl zh (n_.toNat +t13.length+t14.toNat +t15.toNat +(t13.getD t15.toNat default).Factors.length+(Int.ofNat (t13.getD t15.toNat default).Factors.length).toNat +Int.toNat 0+1) n_ t13 t14 t15 (t13.getD t15.toNat default).Factors (Int.ofNat (t13.getD t15.toNat default).Factors.length) 0) fun r8=>.h ((r8.1),(r8.2.1),(r8.2.2.1),(IntKind.i64.wrap (r8.2.2.2+1)),()) ()) .d) (.k n_)
def zj6 (zh:List Term→Bool×Int) (x:ttTannotationnesting6) (y:Unit):Wy ttTannotationnesting6 (Unit) (Int):=zh0 zh x.1 x.2.1 x.2.2.1 x.2.2.2.1
def zty (zh:List Term→Bool×Int) (n:Nat) (n_:Int) (t13:List Term) (t14:Int) (t15:Int):Bool×Int:=zQ (zj6 zh) default n (n_,t13,t14,t15,()) ()
def zsw (r:Int):LTree ty:=.done (.exit 0) [.lit (.int .i64 r)] []
def ztw:LL ty ttTannotationnesting6:=zb (lInt .i64) (zb (lSl 42) (zb (lInt .i64) (zb (lInt .i64) zX)))
def ztg:BL ty (Unit):=bNil
def zrx (x:ttTannotationnesting0) (y:Factor×Unit):Nat:=((Int.toNat x.1+Int.toNat x.2.2.1+x.2.2.2.1.length+Int.toNat x.2.2.2.2.1+Int.toNat x.2.2.2.2.2.1+x.2.2.2.2.2.2.1.length+Int.toNat x.2.2.2.2.2.2.2.1+Int.toNat x.2.2.2.2.2.2.2.2.1+x.2.2.2.2.2.2.2.2.2.1.length+Int.toNat x.2.2.2.2.2.2.2.2.2.2.1+Int.toNat x.2.2.2.2.2.2.2.2.2.2.2.1+1)+y.1.Atom.Args.length+y.1.Atom.Items.length)
def zrl (x:ttTannotationnesting2) (y:Unit):Nat:=(Int.toNat x.1+Int.toNat x.2.1+x.2.2.1.length+Int.toNat x.2.2.2.1+Int.toNat x.2.2.2.2.1+x.2.2.2.2.2.1.length+Int.toNat x.2.2.2.2.2.2.1+Int.toNat x.2.2.2.2.2.2.2.1+x.2.2.2.2.2.2.2.2.1.length+Int.toNat x.2.2.2.2.2.2.2.2.2.1+Int.toNat x.2.2.2.2.2.2.2.2.2.2.1+1)
def zsm (x:ttTannotationnesting4) (y:Unit):Nat:=(Int.toNat x.1+x.2.1.length+Int.toNat x.2.2.1+Int.toNat x.2.2.2.1+x.2.2.2.2.1.length+Int.toNat x.2.2.2.2.2.1+Int.toNat x.2.2.2.2.2.2.1+1)
def zrV (x:ttTannotationnesting6) (y:Unit):Nat:=(Int.toNat x.1+x.2.1.length+Int.toNat x.2.2.1+Int.toNat x.2.2.2.1+1)
def zhJ (zh:List Term→Bool×Int):Cx ty:=mkCx base 64 [(120,(zjC zh))] [] [(3,[(3,.keep),(13,.keep),(14,.keep),(15,.keep)]),(6,[(3,.keep),(13,.keep),(14,.keep),(15,.keep),(20,.keep),(21,.keep),(22,.keep)]),(11,[(3,.keep),(7,.keep),(8,.keep),(13,.keep),(14,.keep),(15,.keep),(20,.keep),(21,.keep),(22,.keep),(32,.keep),(33,.keep),(34,.keep)]),(16,[(3,.keep),(8,.keep),(13,.keep),(14,.keep),(15,.keep),(20,.keep),(21,.keep),(22,.keep),(45,.keep),(46,.keep),(47,.keep)])] [(3,1,[(3,.keep)]),(6,3,[(3,.keep),(13,.keep),(14,.keep),(15,.keep)]),(11,5,[(3,.keep),(7,.keep),(8,.keep),(13,.keep),(14,.keep),(15,.keep),(20,.keep),(21,.keep),(22,.keep)]),(16,7,[(3,.keep),(8,.keep),(13,.keep),(14,.keep),(15,.keep),(20,.keep),(21,.keep),(22,.keep)])] [(11,spW zsj zst (zjd zh) default zrq zrx),(16,spW zr5 zrZ (zjr zh) default zrE zrl),(6,spW ztt ztA (zka zh) default zsT zsm),(3,spW ztw ztg (zj6 zh) default zsw zrV)] []
theorem zAX (zh:List Term→Bool×Int):zbv (zhJ zh) (lp (body Tryz.f120) 2):=zbc (id:=11) (V:=zsj) (B:=zst) (W:=zjd zh) (z:=default) (tr:=zrq) (m:=zrx)
theorem zAN (zh:List Term→Bool×Int):zbv (zhJ zh) (lp (body Tryz.f120) 3):=zbc (id:=16) (V:=zr5) (B:=zrZ) (W:=zjr zh) (z:=default) (tr:=zrE) (m:=zrl)
theorem zCw (zh:List Term→Bool×Int):zbv (zhJ zh) (lp (body Tryz.f120) 1):=zbc (id:=6) (V:=ztt) (B:=ztA) (W:=zka zh) (z:=default) (tr:=zsT) (m:=zsm)
theorem zB5 (zh:List Term→Bool×Int):zbv (zhJ zh) (lp (body Tryz.f120) 0):=zbc (id:=3) (V:=ztw) (B:=ztg) (W:=zj6 zh) (z:=default) (tr:=zsw) (m:=zrV)
def zoA (zh:List Term→Bool×Int) (a:List Term):Wy0 (Int):=.bn (zty zh (Int.toNat 0+a.length+(Int.ofNat a.length).toNat +Int.toNat 0+1) 0 a (Int.ofNat a.length) 0) fun r10=>.k r10
def zl8 (zh:List Term→Bool×Int) (a:List Term):Bool×Int:=(zoA zh a).fin default
theorem zAa (zh:List Term→Bool×Int) (zDO:Sound Tryz.prog base 120 (zjC zh)):Sound Tryz.prog base 120 (zjC (zl8 zh)):=
 zH (cx':=(zhJ zh)) zT zD zN (zG ⟨zDO,trivial⟩) Tryz.call120 Tryz.func120 (c:=body Tryz.f120) (by kernel_rfl) (zj (l:=[lp (body Tryz.f120) 0,lp (body Tryz.f120) 1,lp (body Tryz.f120) 2,lp (body Tryz.f120) 3]) (by kernel_rfl) ⟨zB5 zh,zCw zh,zAX zh,zAN zh,trivial⟩) (sg:=⟨[.pure],[]⟩) (A:=zwr) (res:=zt0) (W:=fun x=>zoA zh x.1) (z:=default)
def zJt:Nat→(List Term→Bool×Int)
 | 0=>fun _=>(false,default)
 | n+1=>zl8 (zJt n)
def zff (n:Nat):List Term→Bool×Int:=zJt n
theorem zCF (n:Nat):zff (n+1)=zl8 (zff n):=rfl
theorem zGy:∀ n,Sound Tryz.prog base 120 (zjC (zff n))
 | 0=>zbH Tryz.call120 (fun _=>rfl)
 | n+1=>by
  have ih:=zGy n
  exact zAa _ (ih)
def zrX:List Term→Bool×Int:=zff 1000
def annotation_nesting_spec:Ab.Spec ty:=zjC zrX
theorem zCo:Sound Tryz.prog base 120 annotation_nesting_spec:=(zGy 1000)
def zzN:Cx ty:=mkCx base 13 [] [] [] [] [] []
def zl5 (f:Factor):Wy0 (Bool):=.i (decide (f.Exp>64)) (.k true) (.k (decide (Int.ofNat f.Atom.Items.length>1024)))
def zfb (f:Factor):Bool×Bool:=(zl5 f).fin default
def zpU (r:Bool):ARes ty:=⟨[.pure (.lit (.bool r))],[]⟩
def zrK:AL base (Factor×Unit):=zf (zg (vAgg 50)) aNil
def zhA:Ab.Spec ty:=zu zrK fun x=>((zfb x.1).1,zpU (zfb x.1).2)
theorem zj2:Sound Tryz.prog base 122 zhA:=
 zH (cx':=zzN) zT zD zN (zG trivial) Tryz.call122 Tryz.func122 (c:=body Tryz.f122) (by kernel_rfl) (zj (l:=[]) (by kernel_rfl) trivial) (sg:=⟨[.pure],[]⟩) (A:=zrK) (res:=zpU) (W:=fun x=>zl5 x.1) (z:=default)
abbrev ttTslicesIndexFuncLapiFactorapiFactorwi0:=List Factor×Unit×Int×Int×Unit
def zii (s:List Factor) (t7:Int) (t8:Int):Wy ttTslicesIndexFuncLapiFactorapiFactorwi0 (Unit) (Int⊕Unit):=.i (decide (t8<t7)) (.i (decide (0≤t8)&&decide (t8<Int.ofNat s.length)) (.bn (zfb (FactorOf.mk (Atom.mk (s.getD t8.toNat default).Atom.Kind (s.getD t8.toNat default).Atom.Row (s.getD t8.toNat default).Atom.Args (s.getD t8.toNat default).Atom.Func (s.getD t8.toNat default).Atom.Items (s.getD t8.toNat default).Atom.Op (s.getD t8.toNat default).Atom.Bound) (s.getD t8.toNat default).Exp)) fun r0=>.i (r0) (.k (.inl t8)) (.h (s,(),t7,(IntKind.i64.wrap (t8+1)),()) ())) .d) (.k (.inr ()))
def zb6 (x:ttTslicesIndexFuncLapiFactorapiFactorwi0) (y:Unit):Wy ttTslicesIndexFuncLapiFactorapiFactorwi0 (Unit) (Int⊕Unit):=zii x.1 x.2.2.1 x.2.2.2.1
def zh5 (n:Nat) (s:List Factor) (t7:Int) (t8:Int):Bool×(Int⊕Unit):=zQ (zb6) (.inl default) n (s,(),t7,t8,()) ()
def zhH (r:Int⊕Unit):LTree ty:=.ite (isL r) (.done .ret [.lit (.int .i64 (getL r))] []) (.done (.exit 0) [] [])
def zia:LL ty ttTslicesIndexFuncLapiFactorapiFactorwi0:=zb (lSl 50) (zb (lFn 122 (zX)) (zb (lInt .i64) (zb (lInt .i64) zX)))
def zic:BL ty (Unit):=bNil
def zhI (x:ttTslicesIndexFuncLapiFactorapiFactorwi0) (y:Unit):Nat:=(x.1.length+Int.toNat x.2.2.1+Int.toNat x.2.2.2.1+1)
def zib:Cx ty:=mkCx base 19 [(122,zhA)] [] [(2,[(0,.keep),(1,.keep),(7,.keep),(8,.keep)])] [(2,1,[]),(2,0,[(4,.keep)])] [(2,spW zia zic (zb6) (.inl default) zhH zhI)] []
theorem znH:zbv zib (lp (body Tryz.f150) 0):=zbc (id:=2) (V:=zia) (B:=zic) (W:=zb6) (z:=.inl default) (tr:=zhH) (m:=zhI)
def zer (s:List Factor):Wy0 (Int):=.bn (zh5 (s.length+(Int.ofNat s.length).toNat +Int.toNat 0+1) s (Int.ofNat s.length) 0) fun r2=>.i (isL r2) (.k (getL r2)) (.k (-1:Int))
def zco (s:List Factor):Bool×Int:=(zer s).fin default
def zhX (r:Int):ARes ty:=⟨[.pure (.lit (.int .i64 r))],[]⟩
def ziu:AL base (List Factor×Unit×Unit):=zf (zg (vSl 50)) (zf (zg (vFn 122 vNil)) aNil)
def zed:Ab.Spec ty:=zu ziu fun x=>((zco x.1).1,zhX (zco x.1).2)
theorem zgY:Sound Tryz.prog base 150 zed:=
 zH (cx':=zib) zT zD zN (zG ⟨zj2,trivial⟩) Tryz.call150 Tryz.func150 (c:=body Tryz.f150) (by kernel_rfl) (zj (l:=[lp (body Tryz.f150) 0]) (by kernel_rfl) ⟨znH,trivial⟩) (sg:=⟨[.pure],[]⟩) (A:=ziu) (res:=zhX) (W:=fun x=>zer x.1) (z:=default)
def znk:Cx ty:=mkCx base 9 [(122,zhA),(150,(zHu zed zed))] [] [] [] [] []
def zee (s:List Factor):Wy0 (Bool):=.bn (zco s) fun r0=>.k (decide (r0≥0))
def zb5 (s:List Factor):Bool×Bool:=(zee s).fin default
def zgx (r:Bool):ARes ty:=⟨[.pure (.lit (.bool r))],[]⟩
def zhl:AL base (List Factor×Unit×Unit):=zf (zg (vSl 50)) (zf (zg (vFn 122 vNil)) aNil)
def zf3:Ab.Spec ty:=zu zhl fun x=>((zb5 x.1).1,zgx (zb5 x.1).2)
theorem zl3:Sound Tryz.prog base 107 zf3:=
 zH (cx':=znk) zT zD zN (zG ⟨zj2,(Sound.or (zgY) (zgY)),trivial⟩) Tryz.call107 Tryz.func107 (c:=body Tryz.f107) (by kernel_rfl) (zj (l:=[]) (by kernel_rfl) trivial) (sg:=⟨[.pure],[]⟩) (A:=zhl) (res:=zgx) (W:=fun x=>zee x.1) (z:=default)
def zCE:Cx ty:=mkCx base 12 [(107,zf3),(122,zhA)] [] [] [] [] []
def zop (t:Term):Wy0 (Bool):=.i (decide (Int.ofNat t.Factors.length>64)) (.k true) (.bn (zb5 t.Factors) fun r0=>.k r0)
def zjq (t:Term):Bool×Bool:=(zop t).fin default
def zsZ (r:Bool):ARes ty:=⟨[.pure (.lit (.bool r))],[]⟩
def zue:AL base (Term×Unit):=zf (zg (vAgg 42)) aNil
def ziX:Ab.Spec ty:=zu zue fun x=>((zjq x.1).1,zsZ (zjq x.1).2)
theorem zlH:Sound Tryz.prog base 121 ziX:=
 zH (cx':=zCE) zT zD zN (zG ⟨zl3,zj2,trivial⟩) Tryz.call121 Tryz.func121 (c:=body Tryz.f121) (by kernel_rfl) (zj (l:=[]) (by kernel_rfl) trivial) (sg:=⟨[.pure],[]⟩) (A:=zue) (res:=zsZ) (W:=fun x=>zop x.1) (z:=default)
abbrev ttTslicesIndexFuncapiAnnotationapiTermwi0:=List Term×Unit×Int×Int×Unit
def znM (s:List Term) (t7:Int) (t8:Int):Wy ttTslicesIndexFuncapiAnnotationapiTermwi0 (Unit) (Int⊕Unit):=.i (decide (t8<t7)) (.i (decide (0≤t8)&&decide (t8<Int.ofNat s.length)) (.bn (zjq (s.getD t8.toNat default)) fun r0=>.i (r0) (.k (.inl t8)) (.h (s,(),t7,(IntKind.i64.wrap (t8+1)),()) ())) .d) (.k (.inr ()))
def zel (x:ttTslicesIndexFuncapiAnnotationapiTermwi0) (y:Unit):Wy ttTslicesIndexFuncapiAnnotationapiTermwi0 (Unit) (Int⊕Unit):=znM x.1 x.2.2.1 x.2.2.2.1
def znO (n:Nat) (s:List Term) (t7:Int) (t8:Int):Bool×(Int⊕Unit):=zQ (zel) (.inl default) n (s,(),t7,t8,()) ()
def zhq (r:Int⊕Unit):LTree ty:=.ite (isL r) (.done .ret [.lit (.int .i64 (getL r))] []) (.done (.exit 0) [] [])
def zhU:LL ty ttTslicesIndexFuncapiAnnotationapiTermwi0:=zb (lSl 42) (zb (lFn 121 (zX)) (zb (lInt .i64) (zb (lInt .i64) zX)))
def zhL:BL ty (Unit):=bNil
def zhi (x:ttTslicesIndexFuncapiAnnotationapiTermwi0) (y:Unit):Nat:=(x.1.length+Int.toNat x.2.2.1+Int.toNat x.2.2.2.1+1)
def zhM:Cx ty:=mkCx base 19 [(121,ziX)] [] [(2,[(0,.keep),(1,.keep),(7,.keep),(8,.keep)])] [(2,1,[]),(2,0,[(4,.keep)])] [(2,spW zhU zhL (zel) (.inl default) zhq zhi)] []
theorem znu:zbv zhM (lp (body Tryz.f149) 0):=zbc (id:=2) (V:=zhU) (B:=zhL) (W:=zel) (z:=.inl default) (tr:=zhq) (m:=zhi)
def zig (s:List Term):Wy0 (Int):=.bn (znO (s.length+(Int.ofNat s.length).toNat +Int.toNat 0+1) s (Int.ofNat s.length) 0) fun r2=>.i (isL r2) (.k (getL r2)) (.k (-1:Int))
def zdg (s:List Term):Bool×Int:=(zig s).fin default
def zhn (r:Int):ARes ty:=⟨[.pure (.lit (.int .i64 r))],[]⟩
def zif:AL base (List Term×Unit×Unit):=zf (zg (vSl 42)) (zf (zg (vFn 121 vNil)) aNil)
def zd5:Ab.Spec ty:=zu zif fun x=>((zdg x.1).1,zhn (zdg x.1).2)
theorem zgt:Sound Tryz.prog base 149 zd5:=
 zH (cx':=zhM) zT zD zN (zG ⟨zlH,trivial⟩) Tryz.call149 Tryz.func149 (c:=body Tryz.f149) (by kernel_rfl) (zj (l:=[lp (body Tryz.f149) 0]) (by kernel_rfl) ⟨znu,trivial⟩) (sg:=⟨[.pure],[]⟩) (A:=zif) (res:=zhn) (W:=fun x=>zig x.1) (z:=default)
def zmL:Cx ty:=mkCx base 9 [(121,ziX),(149,(zHu zd5 zd5))] [] [] [] [] []
def zd6 (s:List Term):Wy0 (Bool):=.bn (zdg s) fun r0=>.k (decide (r0≥0))
def zbV (s:List Term):Bool×Bool:=(zd6 s).fin default
def zfY (r:Bool):ARes ty:=⟨[.pure (.lit (.bool r))],[]⟩
def zgU:AL base (List Term×Unit×Unit):=zf (zg (vSl 42)) (zf (zg (vFn 121 vNil)) aNil)
def zfP:Ab.Spec ty:=zu zgU fun x=>((zbV x.1).1,zfY (zbV x.1).2)
theorem zlL:Sound Tryz.prog base 105 zfP:=
 zH (cx':=zmL) zT zD zN (zG ⟨zlH,(Sound.or (zgt) (zgt)),trivial⟩) Tryz.call105 Tryz.func105 (c:=body Tryz.f105) (by kernel_rfl) (zj (l:=[]) (by kernel_rfl) trivial) (sg:=⟨[.pure],[]⟩) (A:=zgU) (res:=zfY) (W:=fun x=>zd6 x.1) (z:=default)
def zFG:Cx ty:=mkCx base 19 [(47,annotation_Size_spec),(105,zfP),(120,annotation_nesting_spec),(121,ziX)] [] [] [] [] []
def zra (a:List Term):Wy0 (Bool):=.i (decide (Int.ofNat a.length>512)) (.k false) (.bn (zrX a) fun r2=>.i (decide (r2>8)) (.k false) (.bn (zwl a) fun r1=>.i (decide (r1>4096)) (.k false) (.bn (zbV a) fun r0=>.k (!r0))))
def zjI (a:List Term):Bool×Bool:=(zra a).fin default
def zvM (r:Bool):ARes ty:=⟨[.pure (.lit (.bool r))],[]⟩
def zxt:AL base (List Term×Unit):=zf (zg (vSl 42)) aNil
def zoB:Ab.Spec ty:=zu zxt fun x=>((zjI x.1).1,zvM (zjI x.1).2)
theorem ztv:Sound Tryz.prog base 70 zoB:=
 zH (cx':=zFG) zT zD zN (zG ⟨zD7,zlL,zCo,zlH,trivial⟩) Tryz.call70 Tryz.func70 (c:=body Tryz.f70) (by kernel_rfl) (zj (l:=[]) (by kernel_rfl) trivial) (sg:=⟨[.pure],[]⟩) (A:=zxt) (res:=zvM) (W:=fun x=>zra x.1) (z:=default)
abbrev ttTannotationValid0:=List Term×Unit×List Term×Int×Int×List Factor×Int×Int×Unit
abbrev ttTannotationValid1:=Bool⊕(List Term×List Term×Int×Int)
abbrev ttTannotationValid2:=List Term×List Term×Int×Int×Unit
def ziO (zq:Atom→Bool×Bool) (a:List Term) (t10:List Term) (t11:Int) (t12:Int) (t40:List Factor) (t41:Int) (t42:Int) (t:Term):Wy ttTannotationValid0 (Term×Unit) ttTannotationValid1:=.i (decide (t42<t41)) (.i (decide (0≤t42)&&decide (t42<Int.ofNat t40.length)) (.i (decide ((t40.getD t42.toNat default).Exp<1)) (.k (.inl false)) (.bn (zeN (Atom.mk (t40.getD t42.toNat default).Atom.Kind (t40.getD t42.toNat default).Atom.Row (t40.getD t42.toNat default).Atom.Args (t40.getD t42.toNat default).Atom.Func (t40.getD t42.toNat default).Atom.Items (t40.getD t42.toNat default).Atom.Op (t40.getD t42.toNat default).Atom.Bound)) fun r6=>.i (r6) (.i ((t40.getD t42.toNat default).Exp != 1) (.k (.inl false)) (.i (decide (t42>0)) (.i (decide (0≤IntKind.i64.wrap (t42 - 1))&&decide (IntKind.i64.wrap (t42 - 1)<Int.ofNat t.Factors.length)) (.bn (zhG (Atom.mk (t.Factors.getD (IntKind.i64.wrap (t42 - 1)).toNat default).Atom.Kind (t.Factors.getD (IntKind.i64.wrap (t42 - 1)).toNat default).Atom.Row (t.Factors.getD (IntKind.i64.wrap (t42 - 1)).toNat default).Atom.Args (t.Factors.getD (IntKind.i64.wrap (t42 - 1)).toNat default).Atom.Func (t.Factors.getD (IntKind.i64.wrap (t42 - 1)).toNat default).Atom.Items (t.Factors.getD (IntKind.i64.wrap (t42 - 1)).toNat default).Atom.Op (t.Factors.getD (IntKind.i64.wrap (t42 - 1)).toNat default).Atom.Bound) (Atom.mk (t40.getD t42.toNat default).Atom.Kind (t40.getD t42.toNat default).Atom.Row (t40.getD t42.toNat default).Atom.Args (t40.getD t42.toNat default).Atom.Func (t40.getD t42.toNat default).Atom.Items (t40.getD t42.toNat default).Atom.Op (t40.getD t42.toNat default).Atom.Bound)) fun r1=>.i (decide (r1≥0)) (.k (.inl false)) (.bn (zq (Atom.mk (t40.getD t42.toNat default).Atom.Kind (t40.getD t42.toNat default).Atom.Row (t40.getD t42.toNat default).Atom.Args (t40.getD t42.toNat default).Atom.Func (t40.getD t42.toNat default).Atom.Items (t40.getD t42.toNat default).Atom.Op (t40.getD t42.toNat default).Atom.Bound)) fun r0=>.i (!r0) (.k (.inl false)) (.h (a,(),t10,t11,t12,t40,t41,(IntKind.i64.wrap (t42+1)),()) (t,())))) .d) (.bn (zq (Atom.mk (t40.getD t42.toNat default).Atom.Kind (t40.getD t42.toNat default).Atom.Row (t40.getD t42.toNat default).Atom.Args (t40.getD t42.toNat default).Atom.Func (t40.getD t42.toNat default).Atom.Items (t40.getD t42.toNat default).Atom.Op (t40.getD t42.toNat default).Atom.Bound)) fun r2=>.i (!r2) (.k (.inl false)) (.h (a,(),t10,t11,t12,t40,t41,(IntKind.i64.wrap (t42+1)),()) (t,()))))) (.i (decide (t42>0)) (.i (decide (0≤IntKind.i64.wrap (t42 - 1))&&decide (IntKind.i64.wrap (t42 - 1)<Int.ofNat t.Factors.length)) (.bn (zhG (Atom.mk (t.Factors.getD (IntKind.i64.wrap (t42 - 1)).toNat default).Atom.Kind (t.Factors.getD (IntKind.i64.wrap (t42 - 1)).toNat default).Atom.Row (t.Factors.getD (IntKind.i64.wrap (t42 - 1)).toNat default).Atom.Args (t.Factors.getD (IntKind.i64.wrap (t42 - 1)).toNat default).Atom.Func (t.Factors.getD (IntKind.i64.wrap (t42 - 1)).toNat default).Atom.Items (t.Factors.getD (IntKind.i64.wrap (t42 - 1)).toNat default).Atom.Op (t.Factors.getD (IntKind.i64.wrap (t42 - 1)).toNat default).Atom.Bound) (Atom.mk (t40.getD t42.toNat default).Atom.Kind (t40.getD t42.toNat default).Atom.Row (t40.getD t42.toNat default).Atom.Args (t40.getD t42.toNat default).Atom.Func (t40.getD t42.toNat default).Atom.Items (t40.getD t42.toNat default).Atom.Op (t40.getD t42.toNat default).Atom.Bound)) fun r4=>.i (decide (r4≥0)) (.k (.inl false)) (.bn (zq (Atom.mk (t40.getD t42.toNat default).Atom.Kind (t40.getD t42.toNat default).Atom.Row (t40.getD t42.toNat default).Atom.Args (t40.getD t42.toNat default).Atom.Func (t40.getD t42.toNat default).Atom.Items (t40.getD t42.toNat default).Atom.Op (t40.getD t42.toNat default).Atom.Bound)) fun r3=>.i (!r3) (.k (.inl false)) (.h (a,(),t10,t11,t12,t40,t41,(IntKind.i64.wrap (t42+1)),()) (t,())))) .d) (.bn (zq (Atom.mk (t40.getD t42.toNat default).Atom.Kind (t40.getD t42.toNat default).Atom.Row (t40.getD t42.toNat default).Atom.Args (t40.getD t42.toNat default).Atom.Func (t40.getD t42.toNat default).Atom.Items (t40.getD t42.toNat default).Atom.Op (t40.getD t42.toNat default).Atom.Bound)) fun r5=>.i (!r5) (.k (.inl false)) (.h (a,(),t10,t11,t12,t40,t41,(IntKind.i64.wrap (t42+1)),()) (t,())))))) .d) (.k (.inr (a,t10,t11,t12)))
def zlp (zq:Atom→Bool×Bool) (x:ttTannotationValid0) (y:Term×Unit):Wy ttTannotationValid0 (Term×Unit) ttTannotationValid1:=ziO zq x.1 x.2.2.1 x.2.2.2.1 x.2.2.2.2.1 x.2.2.2.2.2.1 x.2.2.2.2.2.2.1 x.2.2.2.2.2.2.2.1 y.1
def zpl (zq:Atom→Bool×Bool) (n:Nat) (a:List Term) (t10:List Term) (t11:Int) (t12:Int) (t40:List Factor) (t41:Int) (t42:Int) (t:Term):Bool×ttTannotationValid1:=zQ (zlp zq) (.inl default) n (a,(),t10,t11,t12,t40,t41,t42,()) (t,())
def zuc (r:ttTannotationValid1):LTree ty:=.ite (isL r) (.done .ret [.lit (.bool (getL r))] []) (.done (.exit 2) [.sl 42 (getR r).1,.sl 42 (getR r).2.1,.lit (.int .i64 (getR r).2.2.1),.lit (.int .i64 (getR r).2.2.2)] [])
def zvN:LL ty ttTannotationValid0:=zb (lSl 42) (zb (zrG 340 0) (zb (lSl 42) (zb (lInt .i64) (zb (lInt .i64) (zb (lSl 50) (zb (lInt .i64) (zb (lInt .i64) zX)))))))
def zvE:BL ty (Term×Unit):=bBox (zuG (fun x=>(⟨x.1,x.2.1⟩:Term)) (fun x=>(x.Coeff,x.Factors,())) (fun _=>rfl) (zb (lInt .i64) (zb (lSl 50) zX))) false (bNil)
def ziP (zq:Atom→Bool×Bool) (a:List Term) (t10:List Term) (t11:Int) (t12:Int):Wy ttTannotationValid2 (Unit) (Bool⊕Unit):=.i (decide (t12<t11)) (.i (decide (0≤t12)&&decide (t12<Int.ofNat t10.length)) (.i (decide ((t10.getD t12.toNat default).Coeff<1)) (.k (.inl false)) (.i (decide ((t10.getD t12.toNat default).Coeff>1152921504606846976)) (.k (.inl false)) (.i (decide (t12>0)) (.i (decide (0≤IntKind.i64.wrap (t12 - 1))&&decide (IntKind.i64.wrap (t12 - 1)<Int.ofNat a.length)) (.bn (zbG (a.getD (IntKind.i64.wrap (t12 - 1)).toNat default) (t10.getD t12.toNat default)) fun r15=>.i (decide (r15≥0)) (.k (.inl false)) (.bn (zpl zq (a.length+t10.length+t11.toNat +t12.toNat +(t10.getD t12.toNat default).Factors.length+(Int.ofNat (t10.getD t12.toNat default).Factors.length).toNat +Int.toNat 0+(t10.getD t12.toNat default).Factors.length+1) a t10 t11 t12 (t10.getD t12.toNat default).Factors (Int.ofNat (t10.getD t12.toNat default).Factors.length) 0 (t10.getD t12.toNat default)) fun r14=>.i (isL r14) (.k (.inl (getL r14))) (.h ((getR r14).1,(getR r14).2.1,(getR r14).2.2.1,(IntKind.i64.wrap ((getR r14).2.2.2+1)),()) ()))) .d) (.bn (zpl zq (a.length+t10.length+t11.toNat +t12.toNat +(t10.getD t12.toNat default).Factors.length+(Int.ofNat (t10.getD t12.toNat default).Factors.length).toNat +Int.toNat 0+(t10.getD t12.toNat default).Factors.length+1) a t10 t11 t12 (t10.getD t12.toNat default).Factors (Int.ofNat (t10.getD t12.toNat default).Factors.length) 0 (t10.getD t12.toNat default)) fun r16=>.i (isL r16) (.k (.inl (getL r16))) (.h ((getR r16).1,(getR r16).2.1,(getR r16).2.2.1,(IntKind.i64.wrap ((getR r16).2.2.2+1)),()) ()))))) .d) (.k (.inr ()))
def zlq (zq:Atom→Bool×Bool) (x:ttTannotationValid2) (y:Unit):Wy ttTannotationValid2 (Unit) (Bool⊕Unit):=ziP zq x.1 x.2.1 x.2.2.1 x.2.2.2.1
def zvy (zq:Atom→Bool×Bool) (n:Nat) (a:List Term) (t10:List Term) (t11:Int) (t12:Int):Bool×(Bool⊕Unit):=zQ (zlq zq) (.inl default) n (a,t10,t11,t12,()) ()
def zt8 (r:Bool⊕Unit):LTree ty:=.ite (isL r) (.done .ret [.lit (.bool (getL r))] []) (.done (.exit 0) [] [])
def zvi:LL ty ttTannotationValid2:=zb (lSl 42) (zb (lSl 42) (zb (lInt .i64) (zb (lInt .i64) zX)))
def zu8:BL ty (Unit):=bNil
def zt2 (x:ttTannotationValid0) (y:Term×Unit):Nat:=(x.1.length+x.2.2.1.length+Int.toNat x.2.2.2.1+Int.toNat x.2.2.2.2.1+x.2.2.2.2.2.1.length+Int.toNat x.2.2.2.2.2.2.1+Int.toNat x.2.2.2.2.2.2.2.1+y.1.Factors.length+1)
def zul (x:ttTannotationValid2) (y:Unit):Nat:=(x.1.length+x.2.1.length+Int.toNat x.2.2.1+Int.toNat x.2.2.2.1+1)
def zpn (zq:Atom→Bool×Bool):Cx ty:=mkCx base 85 [(70,zoB),(71,annotation_compareLists_spec),(72,ziz),(73,annotation_compareAtoms_spec),(74,(zkM zq))] [] [(4,[(0,.keep),(10,.keep),(11,.keep),(12,.keep)]),(9,[(0,.keep),(4,.keep),(10,.keep),(11,.keep),(12,.keep),(40,.keep),(41,.keep),(42,.keep)])] [(4,1,[]),(4,0,[(2,.keep)]),(9,3,[(0,.keep),(10,.keep),(11,.keep),(12,.keep)]),(9,0,[(2,.keep)])] [(9,spW zvN zvE (zlp zq) (.inl default) zuc zt2),(4,spW zvi zu8 (zlq zq) (.inl default) zt8 zul)] []
theorem zD2 (zq:Atom→Bool×Bool):zbv (zpn zq) (lp (body Tryz.f31) 1):=zbc (id:=9) (V:=zvN) (B:=zvE) (W:=zlp zq) (z:=.inl default) (tr:=zuc) (m:=zt2)
theorem zDE (zq:Atom→Bool×Bool):zbv (zpn zq) (lp (body Tryz.f31) 0):=zbc (id:=4) (V:=zvi) (B:=zu8) (W:=zlq zq) (z:=.inl default) (tr:=zt8) (m:=zul)
def zqj (zq:Atom→Bool×Bool) (a:List Term):Wy0 (Bool):=.bn (zjI a) fun r21=>.i (!r21) (.k false) (.bn (zvy zq (a.length+a.length+(Int.ofNat a.length).toNat +Int.toNat 0+1) a a (Int.ofNat a.length) 0) fun r20=>.i (isL r20) (.k (getL r20)) (.k true))
def zk5 (zq:Atom→Bool×Bool) (a:List Term):Bool×Bool:=(zqj zq a).fin default
theorem zBL (zq:Atom→Bool×Bool) (zCk:Sound Tryz.prog base 74 (zkM zq)):Sound Tryz.prog base 31 (zgT (zk5 zq)):=
 zH (cx':=(zpn zq)) zT zD zN (zG ⟨ztv,zjX,zk8,zoI,zCk,trivial⟩) Tryz.call31 Tryz.func31 (c:=body Tryz.f31) (by kernel_rfl) (zj (l:=[lp (body Tryz.f31) 0,lp (body Tryz.f31) 1]) (by kernel_rfl) ⟨zDE zq,zD2 zq,trivial⟩) (sg:=⟨[.pure],[]⟩) (A:=zyR) (res:=zv1) (W:=fun x=>zqj zq x.1) (z:=default)
def zGX:Cx ty:=mkCx base 9 [(38,annotation_Compare_spec)] [] [] [] [] []
def zsV (a:List Term) (b:List Term):Wy0 (Bool):=.bn (zsn a b) fun r0=>.k (r0==0)
def zes (a:List Term) (b:List Term):Bool×Bool:=(zsV a b).fin default
def zwd (r:Bool):ARes ty:=⟨[.pure (.lit (.bool r))],[]⟩
def zy2:AL base (List Term×List Term×Unit):=zf (zg (vSl 42)) (zf (zg (vSl 42)) aNil)
def zlt:Ab.Spec ty:=zu zy2 fun x=>((zes x.1 x.2.1).1,zwd (zes x.1 x.2.1).2)
theorem zoo:Sound Tryz.prog base 32 zlt:=
 zH (cx':=zGX) zT zD zN (zG ⟨zCA,trivial⟩) Tryz.call32 Tryz.func32 (c:=body Tryz.f32) (by kernel_rfl) (zj (l:=[]) (by kernel_rfl) trivial) (sg:=⟨[.pure],[]⟩) (A:=zy2) (res:=zwd) (W:=fun x=>zsV x.1 x.2.1) (z:=default)
def zMj:Cx ty:=mkCx base 36 [] [] [] [] [] []
def zzF (v:Value):Wy0 (Bool):=.i (v.Kind==0) (.k (v.Text.toList==(ByteArray.mk #[]).toList)) (.i (v.Kind==1) (.i (v.Int==0) (.k (decide (Int.ofNat v.Text.size≤255))) (.k false)) (.i (v.Kind==2) (.i (v.Int==0) (.k (v.Text.toList==(ByteArray.mk #[]).toList)) (.i (v.Int==1) (.k (v.Text.toList==(ByteArray.mk #[]).toList)) (.k false))) (.k false)))
def zor (v:Value):Bool×Bool:=(zzF v).fin default
def zDf (r:Bool):ARes ty:=⟨[.pure (.lit (.bool r))],[]⟩
def zGD:AL base (Value×Unit):=zf (zg (vAgg 46)) aNil
def zqu:Ab.Spec ty:=zu zGD fun x=>((zor x.1).1,zDf (zor x.1).2)
theorem ztQ:Sound Tryz.prog base 133 zqu:=
 zH (cx':=zMj) zT zD zN (zG trivial) Tryz.call133 Tryz.func133 (c:=body Tryz.f133) (by kernel_rfl) (zj (l:=[]) (by kernel_rfl) trivial) (sg:=⟨[.pure],[]⟩) (A:=zGD) (res:=zDf) (W:=fun x=>zzF x.1) (z:=default)
def zBC:Cx ty:=mkCx base 27 [(133,zqu)] [] [] [] [] []
def znT (w:Weighted) (p1:Value) (p2:Int):Wy0 (Bool):=.bn (zor w.Value) fun r0=>.i (!r0) (.k true) (.i (w.Value.Kind != p1.Kind) (.k true) (.i (p2==0) (.k (w.Value.Int != 1)) (.k false)))
def zgw (w:Weighted) (p1:Value) (p2:Int):Bool×Bool:=(znT w p1 p2).fin default
def zrr (r:Bool):ARes ty:=⟨[.pure (.lit (.bool r))],[]⟩
def ztp:AL base (Weighted×Value×(Int×Unit)×Unit):=zf (zg (vAgg 52)) (zf (zg (zLt 46)) (zf (zg (vBox (zs8 (vInt .i64) vNil))) aNil))
def ziw:Ab.Spec ty:=zu ztp fun x=>((zgw x.1 x.2.1 x.2.2.1.1).1,zrr (zgw x.1 x.2.1 x.2.2.1.1).2)
theorem zkT:Sound Tryz.prog base 134 ziw:=
 zH (cx':=zBC) zT zD zN (zG ⟨ztQ,trivial⟩) Tryz.call134 Tryz.func134 (c:=body Tryz.f134) (by kernel_rfl) (zj (l:=[]) (by kernel_rfl) trivial) (sg:=⟨[.pure],[]⟩) (A:=ztp) (res:=zrr) (W:=fun x=>znT x.1 x.2.1 x.2.2.1.1) (z:=default)
abbrev ttTslicesIndexFuncLapiWeightedapiWeightedfi0:=List Weighted×(Value×(Int×Unit)×Unit)×Int×Int×Unit
def zmO (s:List Weighted) (f_0:Value) (f_1:Int) (t7:Int) (t8:Int):Wy ttTslicesIndexFuncLapiWeightedapiWeightedfi0 (Unit) (Int⊕Unit):=.i (decide (t8<t7)) (.i (decide (0≤t8)&&decide (t8<Int.ofNat s.length)) (.bn (zgw (s.getD t8.toNat default) f_0 f_1) fun r0=>.i (r0) (.k (.inl t8)) (.h (s,(f_0,(f_1,()),()),t7,(IntKind.i64.wrap (t8+1)),()) ())) .d) (.k (.inr ()))
def zdU (x:ttTslicesIndexFuncLapiWeightedapiWeightedfi0) (y:Unit):Wy ttTslicesIndexFuncLapiWeightedapiWeightedfi0 (Unit) (Int⊕Unit):=zmO x.1 x.2.1.1 x.2.1.2.1.1 x.2.2.1 x.2.2.2.1
def zmS (n:Nat) (s:List Weighted) (f_0:Value) (f_1:Int) (t7:Int) (t8:Int):Bool×(Int⊕Unit):=zQ (zdU) (.inl default) n (s,(f_0,(f_1,()),()),t7,t8,()) ()
def zgd (r:Int⊕Unit):LTree ty:=.ite (isL r) (.done .ret [.lit (.int .i64 (getL r))] []) (.done (.exit 0) [] [])
def zgo:LL ty ttTslicesIndexFuncLapiWeightedapiWeightedfi0:=zb (lSl 52) (zb (lFn 134 (zb (zy3 (zuG (fun x=>(⟨x.1,x.2.1,x.2.2.1⟩:Value)) (fun x=>(x.Kind,x.Int,x.Text,())) (fun _=>rfl) (zb (lInt .i64) (zb (lInt .i64) (zb lStr zX)))) 0) (zb (zy3 (zb (lInt .i64) zX) 0) zX))) (zb (lInt .i64) (zb (lInt .i64) zX)))
def zgs:BL ty (Unit):=bNil
def zge (x:ttTslicesIndexFuncLapiWeightedapiWeightedfi0) (y:Unit):Nat:=(x.1.length+Int.toNat x.2.1.2.1.1+Int.toNat x.2.2.1+Int.toNat x.2.2.2.1+1)
def zgC:Cx ty:=mkCx base 19 [(134,ziw)] [] [(2,[(0,.keep),(1,.keep),(7,.keep),(8,.keep)])] [(2,1,[]),(2,0,[(4,.keep)])] [(2,spW zgo zgs (zdU) (.inl default) zgd zge)] []
theorem zmh:zbv zgC (lp (body Tryz.f135) 0):=zbc (id:=2) (V:=zgo) (B:=zgs) (W:=zdU) (z:=.inl default) (tr:=zgd) (m:=zge)
def zgV (s:List Weighted) (f_0:Value) (f_1:Int):Wy0 (Int):=.bn (zmS (s.length+f_1.toNat +(Int.ofNat s.length).toNat +Int.toNat 0+1) s f_0 f_1 (Int.ofNat s.length) 0) fun r2=>.i (isL r2) (.k (getL r2)) (.k (-1:Int))
def zcN (s:List Weighted) (f_0:Value) (f_1:Int):Bool×Int:=(zgV s f_0 f_1).fin default
def zf4 (r:Int):ARes ty:=⟨[.pure (.lit (.int .i64 r))],[]⟩
def zgL:AL base (List Weighted×(Value×(Int×Unit)×Unit)×Unit):=zf (zg (vSl 52)) (zf (zg (vFn 134 (zs8 (zLt 46) (zs8 (vBox (zs8 (vInt .i64) vNil)) vNil)))) aNil)
def zfK:Ab.Spec ty:=zu zgL fun x=>((zcN x.1 x.2.1.1 x.2.1.2.1.1).1,zf4 (zcN x.1 x.2.1.1 x.2.1.2.1.1).2)
theorem zlz:Sound Tryz.prog base 135 zfK:=
 zH (cx':=zgC) zT zD zN (zG ⟨zkT,trivial⟩) Tryz.call135 Tryz.func135 (c:=body Tryz.f135) (by kernel_rfl) (zj (l:=[lp (body Tryz.f135) 0]) (by kernel_rfl) ⟨zmh,trivial⟩) (sg:=⟨[.pure],[]⟩) (A:=zgL) (res:=zf4) (W:=fun x=>zgV x.1 x.2.1.1 x.2.1.2.1.1) (z:=default)
def zly:Cx ty:=mkCx base 9 [(134,ziw),(135,zfK)] [] [] [] [] []
def zdG (s:List Weighted) (f_0:Value) (f_1:Int):Wy0 (Bool):=.bn (zcN s f_0 f_1) fun r0=>.k (decide (r0≥0))
def zbl (s:List Weighted) (f_0:Value) (f_1:Int):Bool×Bool:=(zdG s f_0 f_1).fin default
def zfj (r:Bool):ARes ty:=⟨[.pure (.lit (.bool r))],[]⟩
def zfS:AL base (List Weighted×(Value×(Int×Unit)×Unit)×Unit):=zf (zg (vSl 52)) (zf (zg (vFn 134 (zs8 (zLt 46) (zs8 (vBox (zs8 (vInt .i64) vNil)) vNil)))) aNil)
def ze4:Ab.Spec ty:=zu zfS fun x=>((zbl x.1 x.2.1.1 x.2.1.2.1.1).1,zfj (zbl x.1 x.2.1.1 x.2.1.2.1.1).2)
theorem zkC:Sound Tryz.prog base 76 ze4:=
 zH (cx':=zly) zT zD zN (zG ⟨zkT,zlz,trivial⟩) Tryz.call76 Tryz.func76 (c:=body Tryz.f76) (by kernel_rfl) (zj (l:=[]) (by kernel_rfl) trivial) (sg:=⟨[.pure],[]⟩) (A:=zfS) (res:=zfj) (W:=fun x=>zdG x.1 x.2.1.1 x.2.1.2.1.1) (z:=default)
def zEy:Cx ty:=mkCx base 43 [(76,ze4),(133,zqu),(134,ziw)] [] [] [] [] []
def zqk (fn:Int) (items:List Weighted) (op:Int) (bound:Value):Wy0 (Bool):=.i (decide (fn<0)) (.k false) (.i (decide (fn>3)) (.k false) (.i (decide (op<5)) (.k false) (.i (decide (op>10)) (.k false) (.bn (zor bound) fun r3=>.i (!r3) (.k false) (.i (fn==0) (.i (bound.Kind != 0) (.k false) (.bn (zbl items bound fn) fun r0=>.k (!r0))) (.i (fn==1) (.i (bound.Kind != 0) (.k false) (.bn (zbl items bound fn) fun r1=>.k (!r1))) (.bn (zbl items bound fn) fun r2=>.k (!r2))))))))
def ziK (fn:Int) (items:List Weighted) (op:Int) (bound:Value):Bool×Bool:=(zqk fn items op bound).fin default
def zup (r:Bool):ARes ty:=⟨[.pure (.lit (.bool r))],[]⟩
def zws:AL base (Int×List Weighted×Int×Value×Unit):=zf (zg (vInt .i64)) (zf (zg (vSl 52)) (zf (zg (vInt .i64)) (zf (zg (vAgg 46)) aNil)))
def znA:Ab.Spec ty:=zu zws fun x=>((ziK x.1 x.2.1 x.2.2.1 x.2.2.2.1).1,zup (ziK x.1 x.2.1 x.2.2.1 x.2.2.2.1).2)
theorem zs1:Sound Tryz.prog base 75 znA:=
 zH (cx':=zEy) zT zD zN (zG ⟨zkC,ztQ,zkT,trivial⟩) Tryz.call75 Tryz.func75 (c:=body Tryz.f75) (by kernel_rfl) (zj (l:=[]) (by kernel_rfl) trivial) (sg:=⟨[.pure],[]⟩) (A:=zws) (res:=zup) (W:=fun x=>zqk x.1 x.2.1 x.2.2.1 x.2.2.2.1) (z:=default)
def zxI:Cx ty:=mkCx base 7 [] [] [] [] [] []
def zkZ (t:Term):Wy0 (Bool):=.k (Int.ofNat t.Factors.length==0)
def zf2 (t:Term):Bool×Bool:=(zkZ t).fin default
def zoH (r:Bool):ARes ty:=⟨[.pure (.lit (.bool r))],[]⟩
def zpX:AL base (Term×Unit):=zf (zg (vAgg 42)) aNil
def zf1:Ab.Spec ty:=zu zpX fun x=>((zf2 x.1).1,zoH (zf2 x.1).2)
theorem zi0:Sound Tryz.prog base 119 zf1:=
 zH (cx':=zxI) zT zD zN (zG trivial) Tryz.call119 Tryz.func119 (c:=body Tryz.f119) (by kernel_rfl) (zj (l:=[]) (by kernel_rfl) trivial) (sg:=⟨[.pure],[]⟩) (A:=zpX) (res:=zoH) (W:=fun x=>zkZ x.1) (z:=default)
abbrev ttTslicesIndexFuncapiAnnotationapiTermhc0:=List Term×Unit×Int×Int×Unit
def znG (s:List Term) (t7:Int) (t8:Int):Wy ttTslicesIndexFuncapiAnnotationapiTermhc0 (Unit) (Int⊕Unit):=.i (decide (t8<t7)) (.i (decide (0≤t8)&&decide (t8<Int.ofNat s.length)) (.i ((zf2 (s.getD t8.toNat default)).2) (.k (.inl t8)) (.h (s,(),t7,(IntKind.i64.wrap (t8+1)),()) ())) .d) (.k (.inr ()))
def zek (x:ttTslicesIndexFuncapiAnnotationapiTermhc0) (y:Unit):Wy ttTslicesIndexFuncapiAnnotationapiTermhc0 (Unit) (Int⊕Unit):=znG x.1 x.2.2.1 x.2.2.2.1
def znI (n:Nat) (s:List Term) (t7:Int) (t8:Int):Bool×(Int⊕Unit):=zQ (zek) (.inl default) n (s,(),t7,t8,()) ()
def zhu (r:Int⊕Unit):LTree ty:=.ite (isL r) (.done .ret [.lit (.int .i64 (getL r))] []) (.done (.exit 0) [] [])
def zhF:LL ty ttTslicesIndexFuncapiAnnotationapiTermhc0:=zb (lSl 42) (zb (lFn 119 (zX)) (zb (lInt .i64) (zb (lInt .i64) zX)))
def zhZ:BL ty (Unit):=bNil
def zhk (x:ttTslicesIndexFuncapiAnnotationapiTermhc0) (y:Unit):Nat:=(x.1.length+Int.toNat x.2.2.1+Int.toNat x.2.2.2.1+1)
def zhV:Cx ty:=mkCx base 19 [(119,zf1)] [] [(2,[(0,.keep),(1,.keep),(7,.keep),(8,.keep)])] [(2,1,[]),(2,0,[(4,.keep)])] [(2,spW zhF zhZ (zek) (.inl default) zhu zhk)] []
theorem zns:zbv zhV (lp (body Tryz.f149) 0):=zbc (id:=2) (V:=zhF) (B:=zhZ) (W:=zek) (z:=.inl default) (tr:=zhu) (m:=zhk)
def zij (s:List Term):Wy0 (Int):=.bn (znI (s.length+(Int.ofNat s.length).toNat +Int.toNat 0+1) s (Int.ofNat s.length) 0) fun r0=>.i (isL r0) (.k (getL r0)) (.k (-1:Int))
def zdf (s:List Term):Bool×Int:=(zij s).fin default
def zhj (r:Int):ARes ty:=⟨[.pure (.lit (.int .i64 r))],[]⟩
def zik:AL base (List Term×Unit×Unit):=zf (zg (vSl 42)) (zf (zg (vFn 119 vNil)) aNil)
def zd7:Ab.Spec ty:=zu zik fun x=>((zdf x.1).1,zhj (zdf x.1).2)
theorem zgu:Sound Tryz.prog base 149 zd7:=
 zH (cx':=zhV) zT zD zN (zG ⟨zi0,trivial⟩) Tryz.call149 Tryz.func149 (c:=body Tryz.f149) (by kernel_rfl) (zj (l:=[lp (body Tryz.f149) 0]) (by kernel_rfl) ⟨zns,trivial⟩) (sg:=⟨[.pure],[]⟩) (A:=zik) (res:=zhj) (W:=fun x=>zij x.1) (z:=default)
def zmM:Cx ty:=mkCx base 9 [(119,zf1),(149,(zHu zd7 zd7))] [] [] [] [] []
def zd4 (s:List Term):Wy0 (Bool):=.bn (zdf s) fun r0=>.k (decide (r0≥0))
def zcQ (s:List Term):Bool×Bool:=(zd4 s).fin default
def zgc (r:Bool):ARes ty:=⟨[.pure (.lit (.bool r))],[]⟩
def zgO:AL base (List Term×Unit×Unit):=zf (zg (vSl 42)) (zf (zg (vFn 119 vNil)) aNil)
def zfO:Ab.Spec ty:=zu zgO fun x=>((zcQ x.1).1,zgc (zcQ x.1).2)
theorem zlE:Sound Tryz.prog base 105 zfO:=
 zH (cx':=zmM) zT zD zN (zG ⟨zi0,(Sound.or (zgu) (zgu)),trivial⟩) Tryz.call105 Tryz.func105 (c:=body Tryz.f105) (by kernel_rfl) (zj (l:=[]) (by kernel_rfl) trivial) (sg:=⟨[.pure],[]⟩) (A:=zgO) (res:=zgc) (W:=fun x=>zd4 x.1) (z:=default)
def zAM:Cx ty:=mkCx base 5 [(105,zfO),(119,zf1)] [] [] [] [] []
def zm8 (a:List Term):Wy0 (Bool):=.bn (zcQ a) fun r0=>.k r0
def zet (a:List Term):Bool×Bool:=(zm8 a).fin default
def zqG (r:Bool):ARes ty:=⟨[.pure (.lit (.bool r))],[]⟩
def zsl:AL base (List Term×Unit):=zf (zg (vSl 42)) aNil
def zle:Ab.Spec ty:=zu zsl fun x=>((zet x.1).1,zqG (zet x.1).2)
theorem zo0:Sound Tryz.prog base 68 zle:=
 zH (cx':=zAM) zT zD zN (zG ⟨zlE,zi0,trivial⟩) Tryz.call68 Tryz.func68 (c:=body Tryz.f68) (by kernel_rfl) (zj (l:=[]) (by kernel_rfl) trivial) (sg:=⟨[.pure],[]⟩) (A:=zsl) (res:=zqG) (W:=fun x=>zm8 x.1) (z:=default)
def zBP:Cx ty:=mkCx base 14 [] [] [] [] [] []
def znR (a:List Term):Wy0 (Bool):=.i (Int.ofNat a.length==1) (.i (decide ((0:Int)≤(0:Int))&&decide (0<Int.ofNat a.length)) (.k (Int.ofNat (a.getD (Int.toNat 0) default).Factors.length==0)) .d) (.k false)
def zgF (a:List Term):Bool×Bool:=(znR a).fin default
def zrv (r:Bool):ARes ty:=⟨[.pure (.lit (.bool r))],[]⟩
def zti:AL base (List Term×Unit):=zf (zg (vSl 42)) aNil
def zlO:Ab.Spec ty:=zu zti fun x=>((zgF x.1).1,zrv (zgF x.1).2)
theorem zpN:Sound Tryz.prog base 65 zlO:=
 zH (cx':=zBP) zT zD zN (zG trivial) Tryz.call65 Tryz.func65 (c:=body Tryz.f65) (by kernel_rfl) (zj (l:=[]) (by kernel_rfl) trivial) (sg:=⟨[.pure],[]⟩) (A:=zti) (res:=zrv) (W:=fun x=>znR x.1) (z:=default)
def zFs:Cx ty:=mkCx base 42 [(72,ziz)] [] [] [] [] []
def zrc (a:List Term):Wy0 (Bool):=.i (Int.ofNat a.length != 1) (.k false) (.i (decide ((0:Int)≤(0:Int))&&decide (0<Int.ofNat a.length)) (.i ((a.getD (Int.toNat 0) default).Coeff != 1) (.k false) (.i (decide ((0:Int)≤(0:Int))&&decide (0<Int.ofNat a.length)) (.i (Int.ofNat (a.getD (Int.toNat 0) default).Factors.length != 1) (.k false) (.i (decide ((0:Int)≤(0:Int))&&decide (0<Int.ofNat a.length)) (.i (decide ((0:Int)≤(0:Int))&&decide (0<Int.ofNat (a.getD (Int.toNat 0) default).Factors.length)) (.i (((a.getD (Int.toNat 0) default).Factors.getD (Int.toNat 0) default).Exp==1) (.i (((a.getD (Int.toNat 0) default).Factors.getD (Int.toNat 0) default).Atom.Kind==2) (.k true) (.bn (zeN (Atom.mk ((a.getD (Int.toNat 0) default).Factors.getD (Int.toNat 0) default).Atom.Kind ((a.getD (Int.toNat 0) default).Factors.getD (Int.toNat 0) default).Atom.Row ((a.getD (Int.toNat 0) default).Factors.getD (Int.toNat 0) default).Atom.Args ((a.getD (Int.toNat 0) default).Factors.getD (Int.toNat 0) default).Atom.Func ((a.getD (Int.toNat 0) default).Factors.getD (Int.toNat 0) default).Atom.Items ((a.getD (Int.toNat 0) default).Factors.getD (Int.toNat 0) default).Atom.Op ((a.getD (Int.toNat 0) default).Factors.getD (Int.toNat 0) default).Atom.Bound)) fun r0=>.k r0)) (.k false)) .d) .d)) .d)) .d)
def zjM (a:List Term):Bool×Bool:=(zrc a).fin default
def zvK (r:Bool):ARes ty:=⟨[.pure (.lit (.bool r))],[]⟩
def zxh:AL base (List Term×Unit):=zf (zg (vSl 42)) aNil
def zoF:Ab.Spec ty:=zu zxh fun x=>((zjM x.1).1,zvK (zjM x.1).2)
theorem ztq:Sound Tryz.prog base 64 zoF:=
 zH (cx':=zFs) zT zD zN (zG ⟨zk8,trivial⟩) Tryz.call64 Tryz.func64 (c:=body Tryz.f64) (by kernel_rfl) (zj (l:=[]) (by kernel_rfl) trivial) (sg:=⟨[.pure],[]⟩) (A:=zxh) (res:=zvK) (W:=fun x=>zrc x.1) (z:=default)
def zK7:Cx ty:=mkCx base 11 [] [] [] [] [] []
def zxY (id:RowID):Wy0 (Bool):=.i (decide (id.Table≥1)) (.k (decide (id.Seq≥1))) (.k false)
def znc (id:RowID):Bool×Bool:=(zxY id).fin default
def zCq (r:Bool):ARes ty:=⟨[.pure (.lit (.bool r))],[]⟩
def zEu:AL base (RowID×Unit):=zf (zg (vAgg 25)) aNil
def zoU:Ab.Spec ty:=zu zEu fun x=>((znc x.1).1,zCq (znc x.1).2)
theorem zrS:Sound Tryz.prog base 69 zoU:=
 zH (cx':=zK7) zT zD zN (zG trivial) Tryz.call69 Tryz.func69 (c:=body Tryz.f69) (by kernel_rfl) (zj (l:=[]) (by kernel_rfl) trivial) (sg:=⟨[.pure],[]⟩) (A:=zEu) (res:=zCq) (W:=fun x=>zxY x.1) (z:=default)
abbrev ttTslicesIsSortedFuncLapiWeightedapiWeighted0:=List Weighted×Unit×Int×Unit
def zdW (x_:List Weighted) (i:Int):Wy ttTslicesIsSortedFuncLapiWeightedapiWeighted0 (Unit) (Bool⊕Unit):=.i (decide (i>0)) (.i (decide (0≤i)&&decide (i<Int.ofNat x_.length)) (.i (decide (0≤IntKind.i64.wrap (i - 1))&&decide (IntKind.i64.wrap (i - 1)<Int.ofNat x_.length)) (.bn (zZ (x_.getD i.toNat default) (x_.getD (IntKind.i64.wrap (i - 1)).toNat default)) fun r0=>.i (decide (r0<0)) (.k (.inl false)) (.h (x_,(),(IntKind.i64.wrap (i - 1)),()) ())) .d) .d) (.k (.inr ()))
def zdZ (x:ttTslicesIsSortedFuncLapiWeightedapiWeighted0) (y:Unit):Wy ttTslicesIsSortedFuncLapiWeightedapiWeighted0 (Unit) (Bool⊕Unit):=zdW x.1 x.2.2.1
def zd0 (n:Nat) (x_:List Weighted) (i:Int):Bool×(Bool⊕Unit):=zQ (zdZ) (.inl default) n (x_,(),i,()) ()
def zgb (r:Bool⊕Unit):LTree ty:=.ite (isL r) (.done .ret [.lit (.bool (getL r))] []) (.done (.exit 0) [] [])
def zgz:LL ty ttTslicesIsSortedFuncLapiWeightedapiWeighted0:=zb (lSl 52) (zb (lFn 85 (zX)) (zb (lInt .i64) zX))
def zgy:BL ty (Unit):=bNil
def zgn:Cx ty:=mkCx base 25 [(85,annotation_compareItems_spec)] [] [(2,[(0,.keep),(1,.keep),(5,.keep)])] [(2,1,[]),(2,0,[(4,.keep)])] [(2,spW zgz zgy (zdZ) (.inl default) zgb fun x y=>(x.1.length+Int.toNat x.2.2.1+1))] []
theorem zmb:zbv zgn (lp (body Tryz.f132) 0):=zbc (id:=2) (V:=zgz) (B:=zgy) (W:=zdZ) (z:=.inl default) (tr:=zgb) (m:=fun x y=>(x.1.length+Int.toNat x.2.2.1+1))
def zd3 (x_:List Weighted):Wy0 (Bool):=.bn (zd0 (x_.length+(IntKind.i64.wrap (Int.ofNat x_.length - 1)).toNat +1) x_ (IntKind.i64.wrap (Int.ofNat x_.length - 1))) fun r2=>.i (isL r2) (.k (getL r2)) (.k true)
def zbW (x_:List Weighted):Bool×Bool:=(zd3 x_).fin default
def zfZ (r:Bool):ARes ty:=⟨[.pure (.lit (.bool r))],[]⟩
def zg7:AL base (List Weighted×Unit×Unit):=zf (zg (vSl 52)) (zf (zg (vFn 85 vNil)) aNil)
def zfQ:Ab.Spec ty:=zu zg7 fun x=>((zbW x.1).1,zfZ (zbW x.1).2)
theorem zlP:Sound Tryz.prog base 132 zfQ:=
 zH (cx':=zgn) zT zD zN (zG ⟨zgJ,trivial⟩) Tryz.call132 Tryz.func132 (c:=body Tryz.f132) (by kernel_rfl) (zj (l:=[lp (body Tryz.f132) 0]) (by kernel_rfl) ⟨zmb,trivial⟩) (sg:=⟨[.pure],[]⟩) (A:=zg7) (res:=zfZ) (W:=fun x=>zd3 x.1) (z:=default)
def zcs (zc:List Weighted→Bool×Bool) (za:List (List Term)→Bool×Bool) (zd:List Term→Bool×Bool) (ze:Weighted→Bool×Bool):Cx ty:=mkCx base 149 [(32,zlt),(64,zoF),(65,zlO),(68,zle),(69,zoU),(75,znA),(76,(zcj zc)),(85,annotation_compareItems_spec),(129,(zb0 za)),(130,(zcY zd)),(131,(zc1 ze)),(132,zfQ)] [] [] [] [] []
def zbO (zc:List Weighted→Bool×Bool) (za:List (List Term)→Bool×Bool) (zd:List Term→Bool×Bool) (ze:Weighted→Bool×Bool) (x_:Atom):Wy0 (Bool):=.i (x_.Kind==0) (.i (x_.Func != 0) (.k false) (.i (Int.ofNat x_.Items.length != 0) (.k false) (.i (x_.Op != 0) (.k false) (.i (!(x_.Bound.Kind==0&&(x_.Bound.Int==0&&(x_.Bound.Text.toList==(ByteArray.mk #[]).toList&&true)))) (.k false) (.bn (za x_.Args) fun r1=>.i (r1) (.k false) (.bn (znc x_.Row) fun r0=>.i (r0) (.k (Int.ofNat x_.Args.length==0)) (.k false))))))) (.i (x_.Kind==1) (.i (x_.Func != 0) (.k false) (.i (Int.ofNat x_.Items.length != 0) (.k false) (.i (x_.Op != 0) (.k false) (.i (!(x_.Bound.Kind==0&&(x_.Bound.Int==0&&(x_.Bound.Text.toList==(ByteArray.mk #[]).toList&&true)))) (.k false) (.i (!(x_.Row.Table==0&&(x_.Row.Seq==0&&true))) (.k false) (.bn (za x_.Args) fun r3=>.i (r3) (.k false) (.i (Int.ofNat x_.Args.length==2) (.i (decide ((0:Int)≤(0:Int))&&decide (0<Int.ofNat x_.Args.length)) (.i (decide ((0:Int)≤(1:Int))&&decide (1<Int.ofNat x_.Args.length)) (.bn (zes (x_.Args.getD (Int.toNat 0) default) (x_.Args.getD (Int.toNat 1) default)) fun r2=>.k (!r2)) .d) .d) (.k false)))))))) (.i (x_.Kind==2) (.i (x_.Func != 0) (.k false) (.i (Int.ofNat x_.Items.length != 0) (.k false) (.i (x_.Op != 0) (.k false) (.i (!(x_.Bound.Kind==0&&(x_.Bound.Int==0&&(x_.Bound.Text.toList==(ByteArray.mk #[]).toList&&true)))) (.k false) (.i (!(x_.Row.Table==0&&(x_.Row.Seq==0&&true))) (.k false) (.bn (za x_.Args) fun r6=>.i (r6) (.k false) (.i (Int.ofNat x_.Args.length==1) (.i (decide ((0:Int)≤(0:Int))&&decide (0<Int.ofNat x_.Args.length)) (.bn (zgF (x_.Args.getD (Int.toNat 0) default)) fun r5=>.i (!r5) (.i (decide ((0:Int)≤(0:Int))&&decide (0<Int.ofNat x_.Args.length)) (.bn (zjM (x_.Args.getD (Int.toNat 0) default)) fun r4=>.k (!r4)) .d) (.k false)) .d) (.k false)))))))) (.i (x_.Kind==3) (.i (x_.Func != 0) (.k false) (.i (Int.ofNat x_.Items.length != 0) (.k false) (.i (x_.Op != 0) (.k false) (.i (!(x_.Bound.Kind==0&&(x_.Bound.Int==0&&(x_.Bound.Text.toList==(ByteArray.mk #[]).toList&&true)))) (.k false) (.i (!(x_.Row.Table==0&&(x_.Row.Seq==0&&true))) (.k false) (.bn (za x_.Args) fun r8=>.i (r8) (.k false) (.i (Int.ofNat x_.Args.length==1) (.i (decide ((0:Int)≤(0:Int))&&decide (0<Int.ofNat x_.Args.length)) (.bn (zet (x_.Args.getD (Int.toNat 0) default)) fun r7=>.k (!r7)) .d) (.k false)))))))) (.i (x_.Kind==4) (.i (!(x_.Row.Table==0&&(x_.Row.Seq==0&&true))) (.k false) (.bn (za x_.Args) fun r12=>.i (r12) (.k false) (.bn (zc x_.Items) fun r11=>.i (Int.ofNat x_.Args.length==0) (.i (decide (Int.ofNat x_.Items.length>0)) (.i (!r11) (.bn (zbW x_.Items) fun r10=>.i (r10) (.bn (ziK x_.Func x_.Items x_.Op x_.Bound) fun r9=>.k r9) (.k false)) (.k false)) (.k false)) (.k false)))) (.i (x_.Func != 0) (.k false) (.i (Int.ofNat x_.Items.length != 0) (.k false) (.i (x_.Op != 0) (.k false) (.i (!(x_.Bound.Kind==0&&(x_.Bound.Int==0&&(x_.Bound.Text.toList==(ByteArray.mk #[]).toList&&true)))) (.k false) (.i (!(x_.Row.Table==0&&(x_.Row.Seq==0&&true))) (.k false) (.bn (za x_.Args) fun r14=>.i (r14) (.k false) (.k false)))))))))))
def zio (zc:List Weighted→Bool×Bool) (za:List (List Term)→Bool×Bool) (zd:List Term→Bool×Bool) (ze:Weighted→Bool×Bool) (x_:Atom):Bool×Bool:=(zbO zc za zd ze x_).fin default
theorem zy4 (zc:List Weighted→Bool×Bool) (za:List (List Term)→Bool×Bool) (zd:List Term→Bool×Bool) (ze:Weighted→Bool×Bool) (v_Row:RowID) (v_Args:List (List Term)) (v_Func:Int) (v_Items:List Weighted) (v_Op:Int) (v_Bound:Value)  :zix (zcs zc za zd ze) Tryz.f74 (body Tryz.f74) ⟨[.pure],[]⟩ [.pure (.agg (base.enc 48 (Atom.mk (Int.ofNat 0) v_Row v_Args v_Func v_Items v_Op v_Bound)))]=(zbO zc za zd ze (Atom.mk (Int.ofNat 0) v_Row v_Args v_Func v_Items v_Op v_Bound)).ev noH (fun r=>some (zcb r)) none:=by kernel_rfl
theorem zyH (zc:List Weighted→Bool×Bool) (za:List (List Term)→Bool×Bool) (zd:List Term→Bool×Bool) (ze:Weighted→Bool×Bool) (v_Row:RowID) (v_Args:List (List Term)) (v_Func:Int) (v_Items:List Weighted) (v_Op:Int) (v_Bound:Value)  :zix (zcs zc za zd ze) Tryz.f74 (body Tryz.f74) ⟨[.pure],[]⟩ [.pure (.agg (base.enc 48 (Atom.mk (Int.ofNat 1) v_Row v_Args v_Func v_Items v_Op v_Bound)))]=(zbO zc za zd ze (Atom.mk (Int.ofNat 1) v_Row v_Args v_Func v_Items v_Op v_Bound)).ev noH (fun r=>some (zcb r)) none:=by kernel_rfl
theorem zyu (zc:List Weighted→Bool×Bool) (za:List (List Term)→Bool×Bool) (zd:List Term→Bool×Bool) (ze:Weighted→Bool×Bool) (v_Row:RowID) (v_Args:List (List Term)) (v_Func:Int) (v_Items:List Weighted) (v_Op:Int) (v_Bound:Value)  :zix (zcs zc za zd ze) Tryz.f74 (body Tryz.f74) ⟨[.pure],[]⟩ [.pure (.agg (base.enc 48 (Atom.mk (Int.ofNat 2) v_Row v_Args v_Func v_Items v_Op v_Bound)))]=(zbO zc za zd ze (Atom.mk (Int.ofNat 2) v_Row v_Args v_Func v_Items v_Op v_Bound)).ev noH (fun r=>some (zcb r)) none:=by kernel_rfl
theorem zy5 (zc:List Weighted→Bool×Bool) (za:List (List Term)→Bool×Bool) (zd:List Term→Bool×Bool) (ze:Weighted→Bool×Bool) (v_Row:RowID) (v_Args:List (List Term)) (v_Func:Int) (v_Items:List Weighted) (v_Op:Int) (v_Bound:Value)  :zix (zcs zc za zd ze) Tryz.f74 (body Tryz.f74) ⟨[.pure],[]⟩ [.pure (.agg (base.enc 48 (Atom.mk (Int.ofNat 3) v_Row v_Args v_Func v_Items v_Op v_Bound)))]=(zbO zc za zd ze (Atom.mk (Int.ofNat 3) v_Row v_Args v_Func v_Items v_Op v_Bound)).ev noH (fun r=>some (zcb r)) none:=by kernel_rfl
theorem zy6 (zc:List Weighted→Bool×Bool) (za:List (List Term)→Bool×Bool) (zd:List Term→Bool×Bool) (ze:Weighted→Bool×Bool) (v_Row:RowID) (v_Args:List (List Term)) (v_Func:Int) (v_Items:List Weighted) (v_Op:Int) (v_Bound:Value)  :zix (zcs zc za zd ze) Tryz.f74 (body Tryz.f74) ⟨[.pure],[]⟩ [.pure (.agg (base.enc 48 (Atom.mk (Int.ofNat 4) v_Row v_Args v_Func v_Items v_Op v_Bound)))]=(zbO zc za zd ze (Atom.mk (Int.ofNat 4) v_Row v_Args v_Func v_Items v_Op v_Bound)).ev noH (fun r=>some (zcb r)) none:=by kernel_rfl
theorem zy7 (zc:List Weighted→Bool×Bool) (za:List (List Term)→Bool×Bool) (zd:List Term→Bool×Bool) (ze:Weighted→Bool×Bool) (n:Nat) (v_Row:RowID) (v_Args:List (List Term)) (v_Func:Int) (v_Items:List Weighted) (v_Op:Int) (v_Bound:Value)  :zix (zcs zc za zd ze) Tryz.f74 (body Tryz.f74) ⟨[.pure],[]⟩ [.pure (.agg (base.enc 48 (Atom.mk (Int.ofNat (n+5)) v_Row v_Args v_Func v_Items v_Op v_Bound)))]=(zbO zc za zd ze (Atom.mk (Int.ofNat (n+5)) v_Row v_Args v_Func v_Items v_Op v_Bound)).ev noH (fun r=>some (zcb r)) none:=by kernel_rfl
theorem zzl (zc:List Weighted→Bool×Bool) (za:List (List Term)→Bool×Bool) (zd:List Term→Bool×Bool) (ze:Weighted→Bool×Bool) (n:Nat) (v_Row:RowID) (v_Args:List (List Term)) (v_Func:Int) (v_Items:List Weighted) (v_Op:Int) (v_Bound:Value)  :zix (zcs zc za zd ze) Tryz.f74 (body Tryz.f74) ⟨[.pure],[]⟩ [.pure (.agg (base.enc 48 (Atom.mk (Int.negSucc n) v_Row v_Args v_Func v_Items v_Op v_Bound)))]=(zbO zc za zd ze (Atom.mk (Int.negSucc n) v_Row v_Args v_Func v_Items v_Op v_Bound)).ev noH (fun r=>some (zcb r)) none:=by kernel_rfl
theorem zzY (zc:List Weighted→Bool×Bool) (za:List (List Term)→Bool×Bool) (zd:List Term→Bool×Bool) (ze:Weighted→Bool×Bool) (x_:Atom):zix (zcs zc za zd ze) Tryz.f74 (body Tryz.f74) ⟨[.pure],[]⟩ [.pure (.agg (base.enc 48 x_))]=(zbO zc za zd ze x_).ev noH (fun r=>some (zcb r)) none:=by
 obtain ⟨v_Kind,v_Row,v_Args,v_Func,v_Items,v_Op,v_Bound⟩:=x_
 match v_Kind with
 | .ofNat 0=>exact zy4 zc za zd ze v_Row v_Args v_Func v_Items v_Op v_Bound 
 | .ofNat 1=>exact zyH zc za zd ze v_Row v_Args v_Func v_Items v_Op v_Bound 
 | .ofNat 2=>exact zyu zc za zd ze v_Row v_Args v_Func v_Items v_Op v_Bound 
 | .ofNat 3=>exact zy5 zc za zd ze v_Row v_Args v_Func v_Items v_Op v_Bound 
 | .ofNat 4=>exact zy6 zc za zd ze v_Row v_Args v_Func v_Items v_Op v_Bound 
 | .ofNat (n+5)=>exact zy7 zc za zd ze n v_Row v_Args v_Func v_Items v_Op v_Bound 
 | .negSucc n=>exact zzl zc za zd ze n v_Row v_Args v_Func v_Items v_Op v_Bound 
theorem zx8 (zc:List Weighted→Bool×Bool) (za:List (List Term)→Bool×Bool) (zd:List Term→Bool×Bool) (ze:Weighted→Bool×Bool) (zlg:Sound Tryz.prog base 76 (zcj zc)) (zkc:Sound Tryz.prog base 129 (zb0 za)) (ze1:Sound Tryz.prog base 130 (zcY zd)) (ze0:Sound Tryz.prog base 131 (zc1 ze)):Sound Tryz.prog base 74 (zkM (zio zc za zd ze)):=
 zH (cx':=(zcs zc za zd ze)) zT zD zN (zG ⟨zoo,ztq,zpN,zo0,zrS,zs1,zlg,zgJ,zkc,ze1,ze0,zlP,trivial⟩) Tryz.call74 Tryz.func74 (c:=body Tryz.f74) (by kernel_rfl) (zj (l:=[]) (by kernel_rfl) trivial) (sg:=⟨[.pure],[]⟩) (A:=zt1) (res:=zcb) (W:=fun x=>zbO zc za zd ze x.1) (z:=default) (fun x=>zzY zc za zd ze x.1) (fun _=>by kernel_rfl)
def zx0 (zbk:List Term→Bool×Bool):Cx ty:=mkCx base 11 [(31,(zgT zbk))] [] [] [] [] []
def zkW (zbk:List Term→Bool×Bool) (a:List Term):Wy0 (Bool):=.bn (zbk a) fun r0=>.i (!r0) (.k true) (.k (Int.ofNat a.length==0))
def ziU (zbk:List Term→Bool×Bool) (a:List Term):Bool×Bool:=(zkW zbk a).fin default
theorem zvT (zbk:List Term→Bool×Bool) (zqi:Sound Tryz.prog base 31 (zgT zbk)):Sound Tryz.prog base 130 (zcY (ziU zbk)):=
 zH (cx':=(zx0 zbk)) zT zD zN (zG ⟨zqi,trivial⟩) Tryz.call130 Tryz.func130 (c:=body Tryz.f130) (by kernel_rfl) (zj (l:=[]) (by kernel_rfl) trivial) (sg:=⟨[.pure],[]⟩) (A:=zrH) (res:=zpJ) (W:=fun x=>zkW zbk x.1) (z:=default)
def zxA (zbk:List Term→Bool×Bool):Cx ty:=mkCx base 13 [(31,(zgT zbk))] [] [] [] [] []
def zk7 (zbk:List Term→Bool×Bool) (w:Weighted):Wy0 (Bool):=.bn (zbk w.Ann) fun r0=>.i (!r0) (.k true) (.k (Int.ofNat w.Ann.length==0))
def ziY (zbk:List Term→Bool×Bool) (w:Weighted):Bool×Bool:=(zk7 zbk w).fin default
theorem zvP (zbk:List Term→Bool×Bool) (zqi:Sound Tryz.prog base 31 (zgT zbk)):Sound Tryz.prog base 131 (zc1 (ziY zbk)):=
 zH (cx':=(zxA zbk)) zT zD zN (zG ⟨zqi,trivial⟩) Tryz.call131 Tryz.func131 (c:=body Tryz.f131) (by kernel_rfl) (zj (l:=[]) (by kernel_rfl) trivial) (sg:=⟨[.pure],[]⟩) (A:=zrO) (res:=zp2) (W:=fun x=>zk7 zbk x.1) (z:=default)
def zjY (zd:List Term→Bool×Bool) (zO:List (List Term)→Bool×Int):Cx ty:=mkCx base 9 [(130,(zcY zd)),(163,(zcd zO))] [] [] [] [] []
def zcU (zd:List Term→Bool×Bool) (zO:List (List Term)→Bool×Int) (s:List (List Term)):Wy0 (Bool):=.bn (zO s) fun r0=>.k (decide (r0≥0))
def zbY (zd:List Term→Bool×Bool) (zO:List (List Term)→Bool×Int) (s:List (List Term)):Bool×Bool:=(zcU zd zO s).fin default
theorem zja (zd:List Term→Bool×Bool) (zO:List (List Term)→Bool×Int) (ze1:Sound Tryz.prog base 130 (zcY zd)) (zla:Sound Tryz.prog base 163 (zcd zO)):Sound Tryz.prog base 129 (zb0 (zbY zd zO)):=
 zH (cx':=(zjY zd zO)) zT zD zN (zG ⟨ze1,zla,trivial⟩) Tryz.call129 Tryz.func129 (c:=body Tryz.f129) (by kernel_rfl) (zj (l:=[]) (by kernel_rfl) trivial) (sg:=⟨[.pure],[]⟩) (A:=zeZ) (res:=zeH) (W:=fun x=>zcU zd zO x.1) (z:=default)
def zkX (ze:Weighted→Bool×Bool) (zR:List Weighted→Bool×Int):Cx ty:=mkCx base 9 [(131,(zc1 ze)),(135,(zcA zR))] [] [] [] [] []
def zdm (ze:Weighted→Bool×Bool) (zR:List Weighted→Bool×Int) (s:List Weighted):Wy0 (Bool):=.bn (zR s) fun r0=>.k (decide (r0≥0))
def zch (ze:Weighted→Bool×Bool) (zR:List Weighted→Bool×Int) (s:List Weighted):Bool×Bool:=(zdm ze zR s).fin default
theorem zkk (ze:Weighted→Bool×Bool) (zR:List Weighted→Bool×Int) (ze0:Sound Tryz.prog base 131 (zc1 ze)) (zmr:Sound Tryz.prog base 135 (zcA zR)):Sound Tryz.prog base 76 (zcj (zch ze zR)):=
 zH (cx':=(zkX ze zR)) zT zD zN (zG ⟨ze0,zmr,trivial⟩) Tryz.call76 Tryz.func76 (c:=body Tryz.f76) (by kernel_rfl) (zj (l:=[]) (by kernel_rfl) trivial) (sg:=⟨[.pure],[]⟩) (A:=zfJ) (res:=zfl) (W:=fun x=>zdm ze zR x.1) (z:=default)
abbrev ttTslicesIndexFuncLapiAnnotationapiAnnotationv10:=List (List Term)×Unit×Int×Int×Unit
def zkE (zd:List Term→Bool×Bool) (s:List (List Term)) (t7:Int) (t8:Int):Wy ttTslicesIndexFuncLapiAnnotationapiAnnotationv10 (Unit) (Int⊕Unit):=.i (decide (t8<t7)) (.i (decide (0≤t8)&&decide (t8<Int.ofNat s.length)) (.bn (zd (s.getD t8.toNat default)) fun r0=>.i (r0) (.k (.inl t8)) (.h (s,(),t7,(IntKind.i64.wrap (t8+1)),()) ())) .d) (.k (.inr ()))
def zc7 (zd:List Term→Bool×Bool) (x:ttTslicesIndexFuncLapiAnnotationapiAnnotationv10) (y:Unit):Wy ttTslicesIndexFuncLapiAnnotationapiAnnotationv10 (Unit) (Int⊕Unit):=zkE zd x.1 x.2.2.1 x.2.2.2.1
def zkJ (zd:List Term→Bool×Bool) (n:Nat) (s:List (List Term)) (t7:Int) (t8:Int):Bool×(Int⊕Unit):=zQ (zc7 zd) (.inl default) n (s,(),t7,t8,()) ()
def zeP (r:Int⊕Unit):LTree ty:=.ite (isL r) (.done .ret [.lit (.int .i64 (getL r))] []) (.done (.exit 0) [] [])
def zeX:LL ty ttTslicesIndexFuncLapiAnnotationapiAnnotationv10:=zb (lSl 23) (zb (lFn 130 (zX)) (zb (lInt .i64) (zb (lInt .i64) zX)))
def zeW:BL ty (Unit):=bNil
def zeT (x:ttTslicesIndexFuncLapiAnnotationapiAnnotationv10) (y:Unit):Nat:=(x.1.length+Int.toNat x.2.2.1+Int.toNat x.2.2.2.1+1)
def zeY (zd:List Term→Bool×Bool):Cx ty:=mkCx base 19 [(130,(zcY zd))] [] [(2,[(0,.keep),(1,.keep),(7,.keep),(8,.keep)])] [(2,1,[]),(2,0,[(4,.keep)])] [(2,spW zeX zeW (zc7 zd) (.inl default) zeP zeT)] []
theorem zkr (zd:List Term→Bool×Bool):zbv (zeY zd) (lp (body Tryz.f163) 0):=zbc (id:=2) (V:=zeX) (B:=zeW) (W:=zc7 zd) (z:=.inl default) (tr:=zeP) (m:=zeT)
def ze6 (zd:List Term→Bool×Bool) (s:List (List Term)):Wy0 (Int):=.bn (zkJ zd (s.length+(Int.ofNat s.length).toNat +Int.toNat 0+1) s (Int.ofNat s.length) 0) fun r2=>.i (isL r2) (.k (getL r2)) (.k (-1:Int))
def zcc (zd:List Term→Bool×Bool) (s:List (List Term)):Bool×Int:=(ze6 zd s).fin default
theorem zj0 (zd:List Term→Bool×Bool) (ze1:Sound Tryz.prog base 130 (zcY zd)):Sound Tryz.prog base 163 (zcd (zcc zd)):=
 zH (cx':=(zeY zd)) zT zD zN (zG ⟨ze1,trivial⟩) Tryz.call163 Tryz.func163 (c:=body Tryz.f163) (by kernel_rfl) (zj (l:=[lp (body Tryz.f163) 0]) (by kernel_rfl) ⟨zkr zd,trivial⟩) (sg:=⟨[.pure],[]⟩) (A:=zfv) (res:=ze8) (W:=fun x=>ze6 zd x.1) (z:=default)
abbrev ttTslicesIndexFuncLapiWeightedapiWeightedv20:=List Weighted×Unit×Int×Int×Unit
def zlX (ze:Weighted→Bool×Bool) (s:List Weighted) (t7:Int) (t8:Int):Wy ttTslicesIndexFuncLapiWeightedapiWeightedv20 (Unit) (Int⊕Unit):=.i (decide (t8<t7)) (.i (decide (0≤t8)&&decide (t8<Int.ofNat s.length)) (.bn (ze (s.getD t8.toNat default)) fun r0=>.i (r0) (.k (.inl t8)) (.h (s,(),t7,(IntKind.i64.wrap (t8+1)),()) ())) .d) (.k (.inr ()))
def zdJ (ze:Weighted→Bool×Bool) (x:ttTslicesIndexFuncLapiWeightedapiWeightedv20) (y:Unit):Wy ttTslicesIndexFuncLapiWeightedapiWeightedv20 (Unit) (Int⊕Unit):=zlX ze x.1 x.2.2.1 x.2.2.2.1
def zl4 (ze:Weighted→Bool×Bool) (n:Nat) (s:List Weighted) (t7:Int) (t8:Int):Bool×(Int⊕Unit):=zQ (zdJ ze) (.inl default) n (s,(),t7,t8,()) ()
def zfs (r:Int⊕Unit):LTree ty:=.ite (isL r) (.done .ret [.lit (.int .i64 (getL r))] []) (.done (.exit 0) [] [])
def zfT:LL ty ttTslicesIndexFuncLapiWeightedapiWeightedv20:=zb (lSl 52) (zb (lFn 131 (zX)) (zb (lInt .i64) (zb (lInt .i64) zX)))
def zfV:BL ty (Unit):=bNil
def zfp (x:ttTslicesIndexFuncLapiWeightedapiWeightedv20) (y:Unit):Nat:=(x.1.length+Int.toNat x.2.2.1+Int.toNat x.2.2.2.1+1)
def zfU (ze:Weighted→Bool×Bool):Cx ty:=mkCx base 19 [(131,(zc1 ze))] [] [(2,[(0,.keep),(1,.keep),(7,.keep),(8,.keep)])] [(2,1,[]),(2,0,[(4,.keep)])] [(2,spW zfT zfV (zdJ ze) (.inl default) zfs zfp)] []
theorem zlB (ze:Weighted→Bool×Bool):zbv (zfU ze) (lp (body Tryz.f135) 0):=zbc (id:=2) (V:=zfT) (B:=zfV) (W:=zdJ ze) (z:=.inl default) (tr:=zfs) (m:=zfp)
def zgf (ze:Weighted→Bool×Bool) (s:List Weighted):Wy0 (Int):=.bn (zl4 ze (s.length+(Int.ofNat s.length).toNat +Int.toNat 0+1) s (Int.ofNat s.length) 0) fun r2=>.i (isL r2) (.k (getL r2)) (.k (-1:Int))
def zcy (ze:Weighted→Bool×Bool) (s:List Weighted):Bool×Int:=(zgf ze s).fin default
theorem zkR (ze:Weighted→Bool×Bool) (ze0:Sound Tryz.prog base 131 (zc1 ze)):Sound Tryz.prog base 135 (zcA (zcy ze)):=
 zH (cx':=(zfU ze)) zT zD zN (zG ⟨ze0,trivial⟩) Tryz.call135 Tryz.func135 (c:=body Tryz.f135) (by kernel_rfl) (zj (l:=[lp (body Tryz.f135) 0]) (by kernel_rfl) ⟨zlB ze,trivial⟩) (sg:=⟨[.pure],[]⟩) (A:=zhb) (res:=zgj) (W:=fun x=>zgf ze x.1) (z:=default)
end Go.Proofs.YtnolcogncjijpaaGreatDoor
end
