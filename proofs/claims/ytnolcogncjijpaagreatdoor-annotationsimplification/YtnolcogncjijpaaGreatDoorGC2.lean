/- Texts of this claim, joined (the program, its functions in plain words, and what they compute). -/
import Derived.Test.YtnolcogncjijpaaGreatDoorGC1
import Derived.Test.YtnolcogncjijpaaGreatDoorGA2
set_option autoImplicit false
set_option linter.unusedVariables false
set_option linter.unusedSectionVars false
set_option linter.unusedSimpArgs false
set_option maxRecDepth 1000000
set_option maxHeartbeats 0
noncomputable section
namespace Go.Proofs.YtnolcogncjijpaaGreatDoor
open Go Go.Ab
abbrev ttTannotationSize0:=Int×Unit×List Term×Int×Int×List Factor×Int×Int×List (List Term)×Int×Int×Unit
abbrev ttTannotationSize1:=Int×List Term×Int×Int×List Factor×Int×Int×Factor
abbrev ttTannotationSize2:=Int×List Term×Int×Int×List Factor×Int×Int×List Weighted×Int×Int×Unit
abbrev ttTannotationSize3:=Int×List Term×Int×Int×List Factor×Int×Int
abbrev ttTannotationSize4:=Int×List Term×Int×Int×List Factor×Int×Int×Unit
abbrev ttTannotationSize5:=Int×List Term×Int×Int
abbrev ttTannotationSize6:=Int×List Term×Int×Int×Unit
def ziy (zk:List Term→Bool×Int) (n_:Int) (t12:List Term) (t13:Int) (t14:Int) (t25:List Factor) (t26:Int) (t27:Int) (t33:List (List Term)) (t34:Int) (t35:Int) (f:Factor):Wy ttTannotationSize0 (Factor×Unit) ttTannotationSize1:=.i (decide (t35<t34)) (.i (decide (0≤t35)&&decide (t35<Int.ofNat t33.length)) (.bn (zk (t33.getD t35.toNat default)) fun r0=>.h ((IntKind.i64.wrap (n_+r0)),(),t12,t13,t14,t25,t26,t27,t33,t34,(IntKind.i64.wrap (t35+1)),()) (f,())) .d) (.k (n_,t12,t13,t14,t25,t26,t27,f))
def zk0 (zk:List Term→Bool×Int) (x:ttTannotationSize0) (y:Factor×Unit):Wy ttTannotationSize0 (Factor×Unit) ttTannotationSize1:=ziy zk x.1 x.2.2.1 x.2.2.2.1 x.2.2.2.2.1 x.2.2.2.2.2.1 x.2.2.2.2.2.2.1 x.2.2.2.2.2.2.2.1 x.2.2.2.2.2.2.2.2.1 x.2.2.2.2.2.2.2.2.2.1 x.2.2.2.2.2.2.2.2.2.2.1 y.1
def zt2 (zk:List Term→Bool×Int) (n:Nat) (n_:Int) (t12:List Term) (t13:Int) (t14:Int) (t25:List Factor) (t26:Int) (t27:Int) (t33:List (List Term)) (t34:Int) (t35:Int) (f:Factor):Bool×ttTannotationSize1:=zN (zk0 zk) default n (n_,(),t12,t13,t14,t25,t26,t27,t33,t34,t35,()) (f,())
def zs4 (r:ttTannotationSize1):LTree ty:=.done (.exit 4) [.lit (.int .i64 r.1),.ptr 248 0,.sl 42 r.2.1,.lit (.int .i64 r.2.2.1),.lit (.int .i64 r.2.2.2.1),.sl 50 r.2.2.2.2.1,.lit (.int .i64 r.2.2.2.2.2.1),.lit (.int .i64 r.2.2.2.2.2.2.1)] [.box (base.enc 50 r.2.2.2.2.2.2.2) false]
def zut:LL ty ttTannotationSize0:=za (lInt .i64) (za (zqQ 248 0) (za (lSl 42) (za (lInt .i64) (za (lInt .i64) (za (lSl 50) (za (lInt .i64) (za (lInt .i64) (za (lSl 23) (za (lInt .i64) (za (lInt .i64) zS))))))))))
def zuD:BL ty (Factor×Unit):=bBox (ztB (fun x=>(⟨⟨x.1,⟨x.2.1,x.2.2.1⟩,x.2.2.2.1,x.2.2.2.2.1,x.2.2.2.2.2.1,x.2.2.2.2.2.2.1,⟨x.2.2.2.2.2.2.2.1,x.2.2.2.2.2.2.2.2.1,x.2.2.2.2.2.2.2.2.2.1⟩⟩,x.2.2.2.2.2.2.2.2.2.2.1⟩:Factor)) (fun x=>(x.Atom.Kind,x.Atom.Row.Table,x.Atom.Row.Seq,x.Atom.Args,x.Atom.Func,x.Atom.Items,x.Atom.Op,x.Atom.Bound.Kind,x.Atom.Bound.Int,x.Atom.Bound.Text,x.Exp,())) (fun _=>rfl) (za (lInt .i64) (za (lInt .i64) (za (lInt .i64) (za (lSl 23) (za (lInt .i64) (za (lSl 52) (za (lInt .i64) (za (lInt .i64) (za (lInt .i64) (za lStr (za (lInt .i64) zS)))))))))))) false (bNil)
def ziu (zk:List Term→Bool×Int) (n_:Int) (t12:List Term) (t13:Int) (t14:Int) (t25:List Factor) (t26:Int) (t27:Int) (t46:List Weighted) (t47:Int) (t48:Int):Wy ttTannotationSize2 (Unit) ttTannotationSize3:=.i (decide (t48<t47)) (.i (decide (0≤t48)&&decide (t48<Int.ofNat t46.length)) (.bn (zk (t46.getD t48.toNat default).Ann) fun r2=>.h ((IntKind.i64.wrap (n_+IntKind.i64.wrap (1+r2))),t12,t13,t14,t25,t26,t27,t46,t47,(IntKind.i64.wrap (t48+1)),()) ()) .d) (.k (n_,t12,t13,t14,t25,t26,t27))
def zkU (zk:List Term→Bool×Int) (x:ttTannotationSize2) (y:Unit):Wy ttTannotationSize2 (Unit) ttTannotationSize3:=ziu zk x.1 x.2.1 x.2.2.1 x.2.2.2.1 x.2.2.2.2.1 x.2.2.2.2.2.1 x.2.2.2.2.2.2.1 x.2.2.2.2.2.2.2.1 x.2.2.2.2.2.2.2.2.1 x.2.2.2.2.2.2.2.2.2.1
def zuz (zk:List Term→Bool×Int) (n:Nat) (n_:Int) (t12:List Term) (t13:Int) (t14:Int) (t25:List Factor) (t26:Int) (t27:Int) (t46:List Weighted) (t47:Int) (t48:Int):Bool×ttTannotationSize3:=zN (zkU zk) default n (n_,t12,t13,t14,t25,t26,t27,t46,t47,t48,()) ()
def ztt (r:ttTannotationSize3):LTree ty:=.done (.exit 6) [.lit (.int .i64 r.1),.sl 42 r.2.1,.lit (.int .i64 r.2.2.1),.lit (.int .i64 r.2.2.2.1),.sl 50 r.2.2.2.2.1,.lit (.int .i64 r.2.2.2.2.2.1),.lit (.int .i64 r.2.2.2.2.2.2)] []
def zuB:LL ty ttTannotationSize2:=za (lInt .i64) (za (lSl 42) (za (lInt .i64) (za (lInt .i64) (za (lSl 50) (za (lInt .i64) (za (lInt .i64) (za (lSl 52) (za (lInt .i64) (za (lInt .i64) zS)))))))))
def zux:BL ty (Unit):=bNil
def zi2 (zk:List Term→Bool×Int) (n_:Int) (t12:List Term) (t13:Int) (t14:Int) (t25:List Factor) (t26:Int) (t27:Int):Wy ttTannotationSize4 (Unit) ttTannotationSize5:=.i (decide (t27<t26)) (.i (decide (0≤t27)&&decide (t27<Int.ofNat t25.length)) (.bn (zt2 zk ((n_.toNat +t12.length+t13.toNat +t14.toNat +t25.length+t26.toNat +t27.toNat +(t25.getD t27.toNat default).Atom.Args.length+(Int.ofNat (t25.getD t27.toNat default).Atom.Args.length).toNat +Int.toNat 0+1)+(FactorOf.mk (Atom.mk (t25.getD t27.toNat default).Atom.Kind (t25.getD t27.toNat default).Atom.Row (t25.getD t27.toNat default).Atom.Args (t25.getD t27.toNat default).Atom.Func (t25.getD t27.toNat default).Atom.Items (t25.getD t27.toNat default).Atom.Op (t25.getD t27.toNat default).Atom.Bound) (t25.getD t27.toNat default).Exp).Atom.Args.length+(FactorOf.mk (Atom.mk (t25.getD t27.toNat default).Atom.Kind (t25.getD t27.toNat default).Atom.Row (t25.getD t27.toNat default).Atom.Args (t25.getD t27.toNat default).Atom.Func (t25.getD t27.toNat default).Atom.Items (t25.getD t27.toNat default).Atom.Op (t25.getD t27.toNat default).Atom.Bound) (t25.getD t27.toNat default).Exp).Atom.Items.length) n_ t12 t13 t14 t25 t26 t27 (t25.getD t27.toNat default).Atom.Args (Int.ofNat (t25.getD t27.toNat default).Atom.Args.length) 0 (FactorOf.mk (Atom.mk (t25.getD t27.toNat default).Atom.Kind (t25.getD t27.toNat default).Atom.Row (t25.getD t27.toNat default).Atom.Args (t25.getD t27.toNat default).Atom.Func (t25.getD t27.toNat default).Atom.Items (t25.getD t27.toNat default).Atom.Op (t25.getD t27.toNat default).Atom.Bound) (t25.getD t27.toNat default).Exp)) fun r5=>.bn (zuz zk (r5.1.toNat +r5.2.1.length+r5.2.2.1.toNat +r5.2.2.2.1.toNat +r5.2.2.2.2.1.length+r5.2.2.2.2.2.1.toNat +r5.2.2.2.2.2.2.1.toNat +r5.2.2.2.2.2.2.2.Atom.Items.length+(Int.ofNat r5.2.2.2.2.2.2.2.Atom.Items.length).toNat +Int.toNat 0+1) r5.1 r5.2.1 r5.2.2.1 r5.2.2.2.1 r5.2.2.2.2.1 r5.2.2.2.2.2.1 r5.2.2.2.2.2.2.1 r5.2.2.2.2.2.2.2.Atom.Items (Int.ofNat r5.2.2.2.2.2.2.2.Atom.Items.length) 0) fun r4=>.h ((r4.1),(r4.2.1),(r4.2.2.1),(r4.2.2.2.1),(r4.2.2.2.2.1),(r4.2.2.2.2.2.1),(IntKind.i64.wrap (r4.2.2.2.2.2.2+1)),()) ()) .d) (.k (n_,t12,t13,t14))
def zl6 (zk:List Term→Bool×Int) (x:ttTannotationSize4) (y:Unit):Wy ttTannotationSize4 (Unit) ttTannotationSize5:=zi2 zk x.1 x.2.1 x.2.2.1 x.2.2.2.1 x.2.2.2.2.1 x.2.2.2.2.2.1 x.2.2.2.2.2.2.1
def zu7 (zk:List Term→Bool×Int) (n:Nat) (n_:Int) (t12:List Term) (t13:Int) (t14:Int) (t25:List Factor) (t26:Int) (t27:Int):Bool×ttTannotationSize5:=zN (zl6 zk) default n (n_,t12,t13,t14,t25,t26,t27,()) ()
def zud (r:ttTannotationSize5):LTree ty:=.done (.exit 2) [.lit (.int .i64 r.1),.sl 42 r.2.1,.lit (.int .i64 r.2.2.1),.lit (.int .i64 r.2.2.2)] []
def zu5:LL ty ttTannotationSize4:=za (lInt .i64) (za (lSl 42) (za (lInt .i64) (za (lInt .i64) (za (lSl 50) (za (lInt .i64) (za (lInt .i64) zS))))))
def zvb:BL ty (Unit):=bNil
def zi7 (zk:List Term→Bool×Int) (n_:Int) (t12:List Term) (t13:Int) (t14:Int):Wy ttTannotationSize6 (Unit) (Int):=.i (decide (t14<t13)) (.i (decide (0≤t14)&&decide (t14<Int.ofNat t12.length)) (.bn (zu7 zk ((IntKind.i64.wrap (n_+IntKind.i64.wrap (1+Int.ofNat (t12.getD t14.toNat default).Factors.length))).toNat +t12.length+t13.toNat +t14.toNat +(t12.getD t14.toNat default).Factors.length+(Int.ofNat (t12.getD t14.toNat default).Factors.length).toNat +Int.toNat 0+1) (IntKind.i64.wrap (n_+IntKind.i64.wrap (1+Int.ofNat (t12.getD t14.toNat default).Factors.length))) t12 t13 t14 (t12.getD t14.toNat default).Factors (Int.ofNat (t12.getD t14.toNat default).Factors.length) 0) fun r8=>.h ((r8.1),(r8.2.1),(r8.2.2.1),(IntKind.i64.wrap (r8.2.2.2+1)),()) ()) .d) (.k n_)
def zlL (zk:List Term→Bool×Int) (x:ttTannotationSize6) (y:Unit):Wy ttTannotationSize6 (Unit) (Int):=zi7 zk x.1 x.2.1 x.2.2.1 x.2.2.2.1
def zvg (zk:List Term→Bool×Int) (n:Nat) (n_:Int) (t12:List Term) (t13:Int) (t14:Int):Bool×Int:=zN (zlL zk) default n (n_,t12,t13,t14,()) ()
def ztW (r:Int):LTree ty:=.done (.exit 0) [.lit (.int .i64 r)] []
def zvP:LL ty ttTannotationSize6:=za (lInt .i64) (za (lSl 42) (za (lInt .i64) (za (lInt .i64) zS)))
def zvR:BL ty (Unit):=bNil
def ztx (x:ttTannotationSize0) (y:Factor×Unit):Nat:=((Int.toNat x.1+x.2.2.1.length+Int.toNat x.2.2.2.1+Int.toNat x.2.2.2.2.1+x.2.2.2.2.2.1.length+Int.toNat x.2.2.2.2.2.2.1+Int.toNat x.2.2.2.2.2.2.2.1+x.2.2.2.2.2.2.2.2.1.length+Int.toNat x.2.2.2.2.2.2.2.2.2.1+Int.toNat x.2.2.2.2.2.2.2.2.2.2.1+1)+y.1.Atom.Args.length+y.1.Atom.Items.length)
def ztn (x:ttTannotationSize2) (y:Unit):Nat:=(Int.toNat x.1+x.2.1.length+Int.toNat x.2.2.1+Int.toNat x.2.2.2.1+x.2.2.2.2.1.length+Int.toNat x.2.2.2.2.2.1+Int.toNat x.2.2.2.2.2.2.1+x.2.2.2.2.2.2.2.1.length+Int.toNat x.2.2.2.2.2.2.2.2.1+Int.toNat x.2.2.2.2.2.2.2.2.2.1+1)
def zt4 (x:ttTannotationSize4) (y:Unit):Nat:=(Int.toNat x.1+x.2.1.length+Int.toNat x.2.2.1+Int.toNat x.2.2.2.1+x.2.2.2.2.1.length+Int.toNat x.2.2.2.2.2.1+Int.toNat x.2.2.2.2.2.2.1+1)
def zue (x:ttTannotationSize6) (y:Unit):Nat:=(Int.toNat x.1+x.2.1.length+Int.toNat x.2.2.1+Int.toNat x.2.2.2.1+1)
def zi9 (zk:List Term→Bool×Int):Cx ty:=mkCx base 62 [(47,(zlF zk))] [] [(3,[(3,.keep),(12,.keep),(13,.keep),(14,.keep)]),(7,[(3,.keep),(12,.keep),(13,.keep),(14,.keep),(25,.keep),(26,.keep),(27,.keep)]),(10,[(3,.keep),(7,.keep),(12,.keep),(13,.keep),(14,.keep),(25,.keep),(26,.keep),(27,.keep),(33,.keep),(34,.keep),(35,.keep)]),(15,[(3,.keep),(12,.keep),(13,.keep),(14,.keep),(25,.keep),(26,.keep),(27,.keep),(46,.keep),(47,.keep),(48,.keep)])] [(3,1,[(3,.keep)]),(7,3,[(3,.keep),(12,.keep),(13,.keep),(14,.keep)]),(10,5,[(3,.keep),(7,.keep),(12,.keep),(13,.keep),(14,.keep),(25,.keep),(26,.keep),(27,.keep)]),(15,7,[(3,.keep),(12,.keep),(13,.keep),(14,.keep),(25,.keep),(26,.keep),(27,.keep)])] [(10,spW zut zuD (zk0 zk) default zs4 ztx),(15,spW zuB zux (zkU zk) default ztt ztn),(7,spW zu5 zvb (zl6 zk) default zud zt4),(3,spW zvP zvR (zlL zk) default ztW zue)] []
theorem zCj (zk:List Term→Bool×Int):zbp (zi9 zk) (lp (body Tryz.f47) 2):=zY (id:=10) (V:=zut) (B:=zuD) (W:=zk0 zk) (z:=default) (tr:=zs4) (m:=ztx)
theorem zCn (zk:List Term→Bool×Int):zbp (zi9 zk) (lp (body Tryz.f47) 3):=zY (id:=15) (V:=zuB) (B:=zux) (W:=zkU zk) (z:=default) (tr:=ztt) (m:=ztn)
theorem zCM (zk:List Term→Bool×Int):zbp (zi9 zk) (lp (body Tryz.f47) 1):=zY (id:=7) (V:=zu5) (B:=zvb) (W:=zl6 zk) (z:=default) (tr:=zud) (m:=zt4)
theorem zCE (zk:List Term→Bool×Int):zbp (zi9 zk) (lp (body Tryz.f47) 0):=zY (id:=3) (V:=zvP) (B:=zvR) (W:=zlL zk) (z:=default) (tr:=ztW) (m:=zue)
def zqm (zk:List Term→Bool×Int) (a:List Term):Wy0 (Int):=.bn (zvg zk (Int.toNat 0+a.length+(Int.ofNat a.length).toNat +Int.toNat 0+1) 0 a (Int.ofNat a.length) 0) fun r10=>.k r10
def zof (zk:List Term→Bool×Int) (a:List Term):Bool×Int:=(zqm zk a).fin default
theorem zBe (zk:List Term→Bool×Int) (zEz:Sound Tryz.prog base 47 (zlF zk)):Sound Tryz.prog base 47 (zlF (zof zk)):=
 zD (cx':=(zi9 zk)) zQ zB zL (zF ⟨zEz,trivial⟩) Tryz.call47 Tryz.func47 (c:=body Tryz.f47) (by kernel_rfl) (zj (l:=[lp (body Tryz.f47) 0,lp (body Tryz.f47) 1,lp (body Tryz.f47) 2,lp (body Tryz.f47) 3]) (by kernel_rfl) ⟨zCE zk,zCM zk,zCj zk,zCn zk,trivial⟩) (sg:=⟨[.pure],[]⟩) (A:=zy6) (res:=zwf) (W:=fun x=>zqm zk x.1) (z:=default)
def zKw:Nat→(List Term→Bool×Int)
 | 0=>fun _=>(false,default)
 | n+1=>zof (zKw n)
def zjm (n:Nat):List Term→Bool×Int:=zKw n
theorem zDv (n:Nat):zjm (n+1)=zof (zjm n):=rfl
theorem zH6:∀ n,Sound Tryz.prog base 47 (zlF (zjm n))
 | 0=>zbB Tryz.call47 (fun _=>rfl)
 | n+1=>by
  have ih:=zH6 n
  exact zBe _ (ih)
def zvd:List Term→Bool×Int:=zjm 1000
def annotation_Size_spec:Ab.Spec ty:=zlF zvd
theorem zCr:Sound Tryz.prog base 47 annotation_Size_spec:=(zH6 1000)
def ztc (r:Int):ARes ty:=⟨[.pure (.lit (.int .i64 r))],[]⟩
def zvL:AL base (List Term×Unit):=zf (zg (vSl 42)) aNil
def ziW (F:List Term→Bool×Int):Ab.Spec ty:=zr zvL fun x=>((F x.1).1,ztc (F x.1).2)
abbrev ttTannotationnesting0:=Int×Unit×Int×List Term×Int×Int×List Factor×Int×Int×List (List Term)×Int×Int×Unit
abbrev ttTannotationnesting1:=Int×Int×List Term×Int×Int×List Factor×Int×Int×Factor
abbrev ttTannotationnesting2:=Int×Int×List Term×Int×Int×List Factor×Int×Int×List Weighted×Int×Int×Unit
abbrev ttTannotationnesting3:=Int×Int×List Term×Int×Int×List Factor×Int×Int
abbrev ttTannotationnesting4:=Int×List Term×Int×Int×List Factor×Int×Int×Unit
abbrev ttTannotationnesting5:=Int×List Term×Int×Int
abbrev ttTannotationnesting6:=Int×List Term×Int×Int×Unit
def zgx (zh:List Term→Bool×Int) (n_:Int) (inner:Int) (t13:List Term) (t14:Int) (t15:Int) (t20:List Factor) (t21:Int) (t22:Int) (t32:List (List Term)) (t33:Int) (t34:Int) (f:Factor):Wy ttTannotationnesting0 (Factor×Unit) ttTannotationnesting1:=.i (decide (t34<t33)) (.i (decide (0≤t34)&&decide (t34<Int.ofNat t32.length)) (.bn (zh (t32.getD t34.toNat default)) fun r0=>.h (n_,(),(if r0>inner then r0 else inner),t13,t14,t15,t20,t21,t22,t32,t33,(IntKind.i64.wrap (t34+1)),()) (f,())) .d) (.k (n_,inner,t13,t14,t15,t20,t21,t22,f))
def zjk (zh:List Term→Bool×Int) (x:ttTannotationnesting0) (y:Factor×Unit):Wy ttTannotationnesting0 (Factor×Unit) ttTannotationnesting1:=zgx zh x.1 x.2.2.1 x.2.2.2.1 x.2.2.2.2.1 x.2.2.2.2.2.1 x.2.2.2.2.2.2.1 x.2.2.2.2.2.2.2.1 x.2.2.2.2.2.2.2.2.1 x.2.2.2.2.2.2.2.2.2.1 x.2.2.2.2.2.2.2.2.2.2.1 x.2.2.2.2.2.2.2.2.2.2.2.1 y.1
def zrl (zh:List Term→Bool×Int) (n:Nat) (n_:Int) (inner:Int) (t13:List Term) (t14:Int) (t15:Int) (t20:List Factor) (t21:Int) (t22:Int) (t32:List (List Term)) (t33:Int) (t34:Int) (f:Factor):Bool×ttTannotationnesting1:=zN (zjk zh) default n (n_,(),inner,t13,t14,t15,t20,t21,t22,t32,t33,t34,()) (f,())
def zqG (r:ttTannotationnesting1):LTree ty:=.done (.exit 4) [.lit (.int .i64 r.1),.ptr 256 0,.lit (.int .i64 r.2.1),.sl 42 r.2.2.1,.lit (.int .i64 r.2.2.2.1),.lit (.int .i64 r.2.2.2.2.1),.sl 50 r.2.2.2.2.2.1,.lit (.int .i64 r.2.2.2.2.2.2.1),.lit (.int .i64 r.2.2.2.2.2.2.2.1)] [.box (base.enc 50 r.2.2.2.2.2.2.2.2) false]
def zq2:LL ty ttTannotationnesting0:=za (lInt .i64) (za (zqQ 256 0) (za (lInt .i64) (za (lSl 42) (za (lInt .i64) (za (lInt .i64) (za (lSl 50) (za (lInt .i64) (za (lInt .i64) (za (lSl 23) (za (lInt .i64) (za (lInt .i64) zS)))))))))))
def zrq:BL ty (Factor×Unit):=bBox (ztB (fun x=>(⟨⟨x.1,⟨x.2.1,x.2.2.1⟩,x.2.2.2.1,x.2.2.2.2.1,x.2.2.2.2.2.1,x.2.2.2.2.2.2.1,⟨x.2.2.2.2.2.2.2.1,x.2.2.2.2.2.2.2.2.1,x.2.2.2.2.2.2.2.2.2.1⟩⟩,x.2.2.2.2.2.2.2.2.2.2.1⟩:Factor)) (fun x=>(x.Atom.Kind,x.Atom.Row.Table,x.Atom.Row.Seq,x.Atom.Args,x.Atom.Func,x.Atom.Items,x.Atom.Op,x.Atom.Bound.Kind,x.Atom.Bound.Int,x.Atom.Bound.Text,x.Exp,())) (fun _=>rfl) (za (lInt .i64) (za (lInt .i64) (za (lInt .i64) (za (lSl 23) (za (lInt .i64) (za (lSl 52) (za (lInt .i64) (za (lInt .i64) (za (lInt .i64) (za lStr (za (lInt .i64) zS)))))))))))) false (bNil)
def zgr (zh:List Term→Bool×Int) (n_:Int) (inner:Int) (t13:List Term) (t14:Int) (t15:Int) (t20:List Factor) (t21:Int) (t22:Int) (t45:List Weighted) (t46:Int) (t47:Int):Wy ttTannotationnesting2 (Unit) ttTannotationnesting3:=.i (decide (t47<t46)) (.i (decide (0≤t47)&&decide (t47<Int.ofNat t45.length)) (.bn (zh (t45.getD t47.toNat default).Ann) fun r2=>.h (n_,(if r2>inner then r2 else inner),t13,t14,t15,t20,t21,t22,t45,t46,(IntKind.i64.wrap (t47+1)),()) ()) .d) (.k (n_,inner,t13,t14,t15,t20,t21,t22))
def zi6 (zh:List Term→Bool×Int) (x:ttTannotationnesting2) (y:Unit):Wy ttTannotationnesting2 (Unit) ttTannotationnesting3:=zgr zh x.1 x.2.1 x.2.2.1 x.2.2.2.1 x.2.2.2.2.1 x.2.2.2.2.2.1 x.2.2.2.2.2.2.1 x.2.2.2.2.2.2.2.1 x.2.2.2.2.2.2.2.2.1 x.2.2.2.2.2.2.2.2.2.1 x.2.2.2.2.2.2.2.2.2.2.1
def zrp (zh:List Term→Bool×Int) (n:Nat) (n_:Int) (inner:Int) (t13:List Term) (t14:Int) (t15:Int) (t20:List Factor) (t21:Int) (t22:Int) (t45:List Weighted) (t46:Int) (t47:Int):Bool×ttTannotationnesting3:=zN (zi6 zh) default n (n_,inner,t13,t14,t15,t20,t21,t22,t45,t46,t47,()) ()
def zqJ (r:ttTannotationnesting3):LTree ty:=.done (.exit 6) [.lit (.int .i64 r.1),.lit (.int .i64 r.2.1),.sl 42 r.2.2.1,.lit (.int .i64 r.2.2.2.1),.lit (.int .i64 r.2.2.2.2.1),.sl 50 r.2.2.2.2.2.1,.lit (.int .i64 r.2.2.2.2.2.2.1),.lit (.int .i64 r.2.2.2.2.2.2.2)] []
def zrn:LL ty ttTannotationnesting2:=za (lInt .i64) (za (lInt .i64) (za (lSl 42) (za (lInt .i64) (za (lInt .i64) (za (lSl 50) (za (lInt .i64) (za (lInt .i64) (za (lSl 52) (za (lInt .i64) (za (lInt .i64) zS))))))))))
def zrb:BL ty (Unit):=bNil
def zhe (zh:List Term→Bool×Int) (n_:Int) (t13:List Term) (t14:Int) (t15:Int) (t20:List Factor) (t21:Int) (t22:Int):Wy ttTannotationnesting4 (Unit) ttTannotationnesting5:=.i (decide (t22<t21)) (.i (decide (0≤t22)&&decide (t22<Int.ofNat t20.length)) (.i ((t20.getD t22.toNat default).Atom.Kind==0) (.h (n_,t13,t14,t15,t20,t21,(IntKind.i64.wrap (t22+1)),()) ()) (.bn (zrl zh ((n_.toNat +Int.toNat 0+t13.length+t14.toNat +t15.toNat +t20.length+t21.toNat +t22.toNat +(t20.getD t22.toNat default).Atom.Args.length+(Int.ofNat (t20.getD t22.toNat default).Atom.Args.length).toNat +Int.toNat 0+1)+(FactorOf.mk (Atom.mk (t20.getD t22.toNat default).Atom.Kind (t20.getD t22.toNat default).Atom.Row (t20.getD t22.toNat default).Atom.Args (t20.getD t22.toNat default).Atom.Func (t20.getD t22.toNat default).Atom.Items (t20.getD t22.toNat default).Atom.Op (t20.getD t22.toNat default).Atom.Bound) (t20.getD t22.toNat default).Exp).Atom.Args.length+(FactorOf.mk (Atom.mk (t20.getD t22.toNat default).Atom.Kind (t20.getD t22.toNat default).Atom.Row (t20.getD t22.toNat default).Atom.Args (t20.getD t22.toNat default).Atom.Func (t20.getD t22.toNat default).Atom.Items (t20.getD t22.toNat default).Atom.Op (t20.getD t22.toNat default).Atom.Bound) (t20.getD t22.toNat default).Exp).Atom.Items.length) n_ 0 t13 t14 t15 t20 t21 t22 (t20.getD t22.toNat default).Atom.Args (Int.ofNat (t20.getD t22.toNat default).Atom.Args.length) 0 (FactorOf.mk (Atom.mk (t20.getD t22.toNat default).Atom.Kind (t20.getD t22.toNat default).Atom.Row (t20.getD t22.toNat default).Atom.Args (t20.getD t22.toNat default).Atom.Func (t20.getD t22.toNat default).Atom.Items (t20.getD t22.toNat default).Atom.Op (t20.getD t22.toNat default).Atom.Bound) (t20.getD t22.toNat default).Exp)) fun r5=>.bn (zrp zh (r5.1.toNat +r5.2.1.toNat +r5.2.2.1.length+r5.2.2.2.1.toNat +r5.2.2.2.2.1.toNat +r5.2.2.2.2.2.1.length+r5.2.2.2.2.2.2.1.toNat +r5.2.2.2.2.2.2.2.1.toNat +r5.2.2.2.2.2.2.2.2.Atom.Items.length+(Int.ofNat r5.2.2.2.2.2.2.2.2.Atom.Items.length).toNat +Int.toNat 0+1) r5.1 r5.2.1 r5.2.2.1 r5.2.2.2.1 r5.2.2.2.2.1 r5.2.2.2.2.2.1 r5.2.2.2.2.2.2.1 r5.2.2.2.2.2.2.2.1 r5.2.2.2.2.2.2.2.2.Atom.Items (Int.ofNat r5.2.2.2.2.2.2.2.2.Atom.Items.length) 0) fun r4=>.h ((if IntKind.i64.wrap (1+r4.2.1)>r4.1 then IntKind.i64.wrap (1+r4.2.1) else r4.1),(r4.2.2.1),(r4.2.2.2.1),(r4.2.2.2.2.1),(r4.2.2.2.2.2.1),(r4.2.2.2.2.2.2.1),(IntKind.i64.wrap (r4.2.2.2.2.2.2.2+1)),()) ())) .d) (.k (n_,t13,t14,t15))
def zjI (zh:List Term→Bool×Int) (x:ttTannotationnesting4) (y:Unit):Wy ttTannotationnesting4 (Unit) ttTannotationnesting5:=zhe zh x.1 x.2.1 x.2.2.1 x.2.2.2.1 x.2.2.2.2.1 x.2.2.2.2.2.1 x.2.2.2.2.2.2.1
def zsr (zh:List Term→Bool×Int) (n:Nat) (n_:Int) (t13:List Term) (t14:Int) (t15:Int) (t20:List Factor) (t21:Int) (t22:Int):Bool×ttTannotationnesting5:=zN (zjI zh) default n (n_,t13,t14,t15,t20,t21,t22,()) ()
def zq6 (r:ttTannotationnesting5):LTree ty:=.done (.exit 2) [.lit (.int .i64 r.1),.sl 42 r.2.1,.lit (.int .i64 r.2.2.1),.lit (.int .i64 r.2.2.2)] []
def zsf:LL ty ttTannotationnesting4:=za (lInt .i64) (za (lSl 42) (za (lInt .i64) (za (lInt .i64) (za (lSl 50) (za (lInt .i64) (za (lInt .i64) zS))))))
def zst:BL ty (Unit):=bNil
def zhv (zh:List Term→Bool×Int) (n_:Int) (t13:List Term) (t14:Int) (t15:Int):Wy ttTannotationnesting6 (Unit) (Int):=.i (decide (t15<t14)) (.i (decide (0≤t15)&&decide (t15<Int.ofNat t13.length)) (.bn (zsr zh (n_.toNat +t13.length+t14.toNat +t15.toNat +(t13.getD t15.toNat default).Factors.length+(Int.ofNat (t13.getD t15.toNat default).Factors.length).toNat +Int.toNat 0+1) n_ t13 t14 t15 (t13.getD t15.toNat default).Factors (Int.ofNat (t13.getD t15.toNat default).Factors.length) 0) fun r8=>.h ((r8.1),(r8.2.1),(r8.2.2.1),(IntKind.i64.wrap (r8.2.2.2+1)),()) ()) .d) (.k n_)
def zjG (zh:List Term→Bool×Int) (x:ttTannotationnesting6) (y:Unit):Wy ttTannotationnesting6 (Unit) (Int):=zhv zh x.1 x.2.1 x.2.2.1 x.2.2.2.1
def zsz (zh:List Term→Bool×Int) (n:Nat) (n_:Int) (t13:List Term) (t14:Int) (t15:Int):Bool×Int:=zN (zjG zh) default n (n_,t13,t14,t15,()) ()
def zrk (r:Int):LTree ty:=.done (.exit 0) [.lit (.int .i64 r)] []
def zso:LL ty ttTannotationnesting6:=za (lInt .i64) (za (lSl 42) (za (lInt .i64) (za (lInt .i64) zS)))
def zsB:BL ty (Unit):=bNil
def zqC (x:ttTannotationnesting0) (y:Factor×Unit):Nat:=((Int.toNat x.1+Int.toNat x.2.2.1+x.2.2.2.1.length+Int.toNat x.2.2.2.2.1+Int.toNat x.2.2.2.2.2.1+x.2.2.2.2.2.2.1.length+Int.toNat x.2.2.2.2.2.2.2.1+Int.toNat x.2.2.2.2.2.2.2.2.1+x.2.2.2.2.2.2.2.2.2.1.length+Int.toNat x.2.2.2.2.2.2.2.2.2.2.1+Int.toNat x.2.2.2.2.2.2.2.2.2.2.2.1+1)+y.1.Atom.Args.length+y.1.Atom.Items.length)
def zqA (x:ttTannotationnesting2) (y:Unit):Nat:=(Int.toNat x.1+Int.toNat x.2.1+x.2.2.1.length+Int.toNat x.2.2.2.1+Int.toNat x.2.2.2.2.1+x.2.2.2.2.2.1.length+Int.toNat x.2.2.2.2.2.2.1+Int.toNat x.2.2.2.2.2.2.2.1+x.2.2.2.2.2.2.2.2.1.length+Int.toNat x.2.2.2.2.2.2.2.2.2.1+Int.toNat x.2.2.2.2.2.2.2.2.2.2.1+1)
def zrS (x:ttTannotationnesting4) (y:Unit):Nat:=(Int.toNat x.1+x.2.1.length+Int.toNat x.2.2.1+Int.toNat x.2.2.2.1+x.2.2.2.2.1.length+Int.toNat x.2.2.2.2.2.1+Int.toNat x.2.2.2.2.2.2.1+1)
def zq7 (x:ttTannotationnesting6) (y:Unit):Nat:=(Int.toNat x.1+x.2.1.length+Int.toNat x.2.2.1+Int.toNat x.2.2.2.1+1)
def zht (zh:List Term→Bool×Int):Cx ty:=mkCx base 64 [(120,(ziW zh))] [] [(3,[(3,.keep),(13,.keep),(14,.keep),(15,.keep)]),(6,[(3,.keep),(13,.keep),(14,.keep),(15,.keep),(20,.keep),(21,.keep),(22,.keep)]),(11,[(3,.keep),(7,.keep),(8,.keep),(13,.keep),(14,.keep),(15,.keep),(20,.keep),(21,.keep),(22,.keep),(32,.keep),(33,.keep),(34,.keep)]),(16,[(3,.keep),(8,.keep),(13,.keep),(14,.keep),(15,.keep),(20,.keep),(21,.keep),(22,.keep),(45,.keep),(46,.keep),(47,.keep)])] [(3,1,[(3,.keep)]),(6,3,[(3,.keep),(13,.keep),(14,.keep),(15,.keep)]),(11,5,[(3,.keep),(7,.keep),(8,.keep),(13,.keep),(14,.keep),(15,.keep),(20,.keep),(21,.keep),(22,.keep)]),(16,7,[(3,.keep),(8,.keep),(13,.keep),(14,.keep),(15,.keep),(20,.keep),(21,.keep),(22,.keep)])] [(11,spW zq2 zrq (zjk zh) default zqG zqC),(16,spW zrn zrb (zi6 zh) default zqJ zqA),(6,spW zsf zst (zjI zh) default zq6 zrS),(3,spW zso zsB (zjG zh) default zrk zq7)] []
theorem zzH (zh:List Term→Bool×Int):zbp (zht zh) (lp (body Tryz.f120) 2):=zY (id:=11) (V:=zq2) (B:=zrq) (W:=zjk zh) (z:=default) (tr:=zqG) (m:=zqC)
theorem zzG (zh:List Term→Bool×Int):zbp (zht zh) (lp (body Tryz.f120) 3):=zY (id:=16) (V:=zrn) (B:=zrb) (W:=zi6 zh) (z:=default) (tr:=zqJ) (m:=zqA)
theorem zAD (zh:List Term→Bool×Int):zbp (zht zh) (lp (body Tryz.f120) 1):=zY (id:=6) (V:=zsf) (B:=zst) (W:=zjI zh) (z:=default) (tr:=zq6) (m:=zrS)
theorem zA4 (zh:List Term→Bool×Int):zbp (zht zh) (lp (body Tryz.f120) 0):=zY (id:=3) (V:=zso) (B:=zsB) (W:=zjG zh) (z:=default) (tr:=zrk) (m:=zq7)
def znU (zh:List Term→Bool×Int) (a:List Term):Wy0 (Int):=.bn (zsz zh (Int.toNat 0+a.length+(Int.ofNat a.length).toNat +Int.toNat 0+1) 0 a (Int.ofNat a.length) 0) fun r10=>.k r10
def zl4 (zh:List Term→Bool×Int) (a:List Term):Bool×Int:=(znU zh a).fin default
theorem zyO (zh:List Term→Bool×Int) (zB4:Sound Tryz.prog base 120 (ziW zh)):Sound Tryz.prog base 120 (ziW (zl4 zh)):=
 zD (cx':=(zht zh)) zQ zB zL (zF ⟨zB4,trivial⟩) Tryz.call120 Tryz.func120 (c:=body Tryz.f120) (by kernel_rfl) (zj (l:=[lp (body Tryz.f120) 0,lp (body Tryz.f120) 1,lp (body Tryz.f120) 2,lp (body Tryz.f120) 3]) (by kernel_rfl) ⟨zA4 zh,zAD zh,zzH zh,zzG zh,trivial⟩) (sg:=⟨[.pure],[]⟩) (A:=zvL) (res:=ztc) (W:=fun x=>znU zh x.1) (z:=default)
def zGE:Nat→(List Term→Bool×Int)
 | 0=>fun _=>(false,default)
 | n+1=>zl4 (zGE n)
def zeY (n:Nat):List Term→Bool×Int:=zGE n
theorem zA6 (n:Nat):zeY (n+1)=zl4 (zeY n):=rfl
theorem zD5:∀ n,Sound Tryz.prog base 120 (ziW (zeY n))
 | 0=>zbB Tryz.call120 (fun _=>rfl)
 | n+1=>by
  have ih:=zD5 n
  exact zyO _ (ih)
def zrR:List Term→Bool×Int:=zeY 1000
def annotation_nesting_spec:Ab.Spec ty:=ziW zrR
theorem zAQ:Sound Tryz.prog base 120 annotation_nesting_spec:=(zD5 1000)
def zyC:Cx ty:=mkCx base 13 [] [] [] [] [] []
def zlR (f:Factor):Wy0 (Bool):=.i (decide (f.Exp>64)) (.k true) (.k (decide (Int.ofNat f.Atom.Items.length>1024)))
def zeT (f:Factor):Bool×Bool:=(zlR f).fin default
def zo4 (r:Bool):ARes ty:=⟨[.pure (.lit (.bool r))],[]⟩
def zqx:AL base (Factor×Unit):=zf (zg (vAgg 50)) aNil
def zg8:Ab.Spec ty:=zr zqx fun x=>((zeT x.1).1,zo4 (zeT x.1).2)
theorem zjE:Sound Tryz.prog base 122 zg8:=
 zD (cx':=zyC) zQ zB zL (zF trivial) Tryz.call122 Tryz.func122 (c:=body Tryz.f122) (by kernel_rfl) (zj (l:=[]) (by kernel_rfl) trivial) (sg:=⟨[.pure],[]⟩) (A:=zqx) (res:=zo4) (W:=fun x=>zlR x.1) (z:=default)
abbrev ttTslicesIndexFuncLapiFactorapiFactorwi0:=List Factor×Unit×Int×Int×Unit
def zhT (s:List Factor) (t7:Int) (t8:Int):Wy ttTslicesIndexFuncLapiFactorapiFactorwi0 (Unit) (Int⊕Unit):=.i (decide (t8<t7)) (.i (decide (0≤t8)&&decide (t8<Int.ofNat s.length)) (.bn (zeT (FactorOf.mk (Atom.mk (s.getD t8.toNat default).Atom.Kind (s.getD t8.toNat default).Atom.Row (s.getD t8.toNat default).Atom.Args (s.getD t8.toNat default).Atom.Func (s.getD t8.toNat default).Atom.Items (s.getD t8.toNat default).Atom.Op (s.getD t8.toNat default).Atom.Bound) (s.getD t8.toNat default).Exp)) fun r0=>.i (r0) (.k (.inl t8)) (.h (s,(),t7,(IntKind.i64.wrap (t8+1)),()) ())) .d) (.k (.inr ()))
def zb0 (x:ttTslicesIndexFuncLapiFactorapiFactorwi0) (y:Unit):Wy ttTslicesIndexFuncLapiFactorapiFactorwi0 (Unit) (Int⊕Unit):=zhT x.1 x.2.2.1 x.2.2.2.1
def zhU (n:Nat) (s:List Factor) (t7:Int) (t8:Int):Bool×(Int⊕Unit):=zN (zb0) (.inl default) n (s,(),t7,t8,()) ()
def zhk (r:Int⊕Unit):LTree ty:=.ite (isL r) (.done .ret [.lit (.int .i64 (getL r))] []) (.done (.exit 0) [] [])
def zhM:LL ty ttTslicesIndexFuncLapiFactorapiFactorwi0:=za (lSl 50) (za (lFn 122 (zS)) (za (lInt .i64) (za (lInt .i64) zS)))
def zhQ:BL ty (Unit):=bNil
def zhq (x:ttTslicesIndexFuncLapiFactorapiFactorwi0) (y:Unit):Nat:=(x.1.length+Int.toNat x.2.2.1+Int.toNat x.2.2.2.1+1)
def zhN:Cx ty:=mkCx base 19 [(122,zg8)] [] [(2,[(0,.keep),(1,.keep),(7,.keep),(8,.keep)])] [(2,1,[]),(2,0,[(4,.keep)])] [(2,spW zhM zhQ (zb0) (.inl default) zhk zhq)] []
theorem znj:zbp zhN (lp (body Tryz.f150) 0):=zY (id:=2) (V:=zhM) (B:=zhQ) (W:=zb0) (z:=.inl default) (tr:=zhk) (m:=zhq)
def zd2 (s:List Factor):Wy0 (Int):=.bn (zhU (s.length+(Int.ofNat s.length).toNat +Int.toNat 0+1) s (Int.ofNat s.length) 0) fun r2=>.i (isL r2) (.k (getL r2)) (.k (-1:Int))
def zcj (s:List Factor):Bool×Int:=(zd2 s).fin default
def zhh (r:Int):ARes ty:=⟨[.pure (.lit (.int .i64 r))],[]⟩
def zh5:AL base (List Factor×Unit×Unit):=zf (zg (vSl 50)) (zf (zg (vFn 122 vNil)) aNil)
def zdP:Ab.Spec ty:=zr zh5 fun x=>((zcj x.1).1,zhh (zcj x.1).2)
theorem zgO:Sound Tryz.prog base 150 zdP:=
 zD (cx':=zhN) zQ zB zL (zF ⟨zjE,trivial⟩) Tryz.call150 Tryz.func150 (c:=body Tryz.f150) (by kernel_rfl) (zj (l:=[lp (body Tryz.f150) 0]) (by kernel_rfl) ⟨znj,trivial⟩) (sg:=⟨[.pure],[]⟩) (A:=zh5) (res:=zhh) (W:=fun x=>zd2 x.1) (z:=default)
def zmD:Cx ty:=mkCx base 9 [(122,zg8),(150,(zE8 zdP zdP))] [] [] [] [] []
def zdO (s:List Factor):Wy0 (Bool):=.bn (zcj s) fun r0=>.k (decide (r0≥0))
def zb1 (s:List Factor):Bool×Bool:=(zdO s).fin default
def zgd (r:Bool):ARes ty:=⟨[.pure (.lit (.bool r))],[]⟩
def zg2:AL base (List Factor×Unit×Unit):=zf (zg (vSl 50)) (zf (zg (vFn 122 vNil)) aNil)
def zfY:Ab.Spec ty:=zr zg2 fun x=>((zb1 x.1).1,zgd (zb1 x.1).2)
theorem zlv:Sound Tryz.prog base 107 zfY:=
 zD (cx':=zmD) zQ zB zL (zF ⟨zjE,(Sound.or (zgO) (zgO)),trivial⟩) Tryz.call107 Tryz.func107 (c:=body Tryz.f107) (by kernel_rfl) (zj (l:=[]) (by kernel_rfl) trivial) (sg:=⟨[.pure],[]⟩) (A:=zg2) (res:=zgd) (W:=fun x=>zdO x.1) (z:=default)
def zBc:Cx ty:=mkCx base 12 [(107,zfY),(122,zg8)] [] [] [] [] []
def znL (t:Term):Wy0 (Bool):=.i (decide (Int.ofNat t.Factors.length>64)) (.k true) (.bn (zb1 t.Factors) fun r0=>.k r0)
def zi4 (t:Term):Bool×Bool:=(znL t).fin default
def zqY (r:Bool):ARes ty:=⟨[.pure (.lit (.bool r))],[]⟩
def zts:AL base (Term×Unit):=zf (zg (vAgg 42)) aNil
def ziI:Ab.Spec ty:=zr zts fun x=>((zi4 x.1).1,zqY (zi4 x.1).2)
theorem zk9:Sound Tryz.prog base 121 ziI:=
 zD (cx':=zBc) zQ zB zL (zF ⟨zlv,zjE,trivial⟩) Tryz.call121 Tryz.func121 (c:=body Tryz.f121) (by kernel_rfl) (zj (l:=[]) (by kernel_rfl) trivial) (sg:=⟨[.pure],[]⟩) (A:=zts) (res:=zqY) (W:=fun x=>znL x.1) (z:=default)
abbrev ttTslicesIndexFuncapiAnnotationapiTermwi0:=List Term×Unit×Int×Int×Unit
def zno (s:List Term) (t7:Int) (t8:Int):Wy ttTslicesIndexFuncapiAnnotationapiTermwi0 (Unit) (Int⊕Unit):=.i (decide (t8<t7)) (.i (decide (0≤t8)&&decide (t8<Int.ofNat s.length)) (.bn (zi4 (s.getD t8.toNat default)) fun r0=>.i (r0) (.k (.inl t8)) (.h (s,(),t7,(IntKind.i64.wrap (t8+1)),()) ())) .d) (.k (.inr ()))
def zdV (x:ttTslicesIndexFuncapiAnnotationapiTermwi0) (y:Unit):Wy ttTslicesIndexFuncapiAnnotationapiTermwi0 (Unit) (Int⊕Unit):=zno x.1 x.2.2.1 x.2.2.2.1
def zna (n:Nat) (s:List Term) (t7:Int) (t8:Int):Bool×(Int⊕Unit):=zN (zdV) (.inl default) n (s,(),t7,t8,()) ()
def zgY (r:Int⊕Unit):LTree ty:=.ite (isL r) (.done .ret [.lit (.int .i64 (getL r))] []) (.done (.exit 0) [] [])
def zhs:LL ty ttTslicesIndexFuncapiAnnotationapiTermwi0:=za (lSl 42) (za (lFn 121 (zS)) (za (lInt .i64) (za (lInt .i64) zS)))
def zhx:BL ty (Unit):=bNil
def zgX (x:ttTslicesIndexFuncapiAnnotationapiTermwi0) (y:Unit):Nat:=(x.1.length+Int.toNat x.2.2.1+Int.toNat x.2.2.2.1+1)
def zhu:Cx ty:=mkCx base 19 [(121,ziI)] [] [(2,[(0,.keep),(1,.keep),(7,.keep),(8,.keep)])] [(2,1,[]),(2,0,[(4,.keep)])] [(2,spW zhs zhx (zdV) (.inl default) zgY zgX)] []
theorem zm4:zbp zhu (lp (body Tryz.f149) 0):=zY (id:=2) (V:=zhs) (B:=zhx) (W:=zdV) (z:=.inl default) (tr:=zgY) (m:=zgX)
def zhV (s:List Term):Wy0 (Int):=.bn (zna (s.length+(Int.ofNat s.length).toNat +Int.toNat 0+1) s (Int.ofNat s.length) 0) fun r2=>.i (isL r2) (.k (getL r2)) (.k (-1:Int))
def zcU (s:List Term):Bool×Int:=(zhV s).fin default
def zg6 (r:Int):ARes ty:=⟨[.pure (.lit (.int .i64 r))],[]⟩
def zhK:AL base (List Term×Unit×Unit):=zf (zg (vSl 42)) (zf (zg (vFn 121 vNil)) aNil)
def zdE:Ab.Spec ty:=zr zhK fun x=>((zcU x.1).1,zg6 (zcU x.1).2)
theorem zgh:Sound Tryz.prog base 149 zdE:=
 zD (cx':=zhu) zQ zB zL (zF ⟨zk9,trivial⟩) Tryz.call149 Tryz.func149 (c:=body Tryz.f149) (by kernel_rfl) (zj (l:=[lp (body Tryz.f149) 0]) (by kernel_rfl) ⟨zm4,trivial⟩) (sg:=⟨[.pure],[]⟩) (A:=zhK) (res:=zg6) (W:=fun x=>zhV x.1) (z:=default)
def zmo:Cx ty:=mkCx base 9 [(121,ziI),(149,(zE8 zdE zdE))] [] [] [] [] []
def zdC (s:List Term):Wy0 (Bool):=.bn (zcU s) fun r0=>.k (decide (r0≥0))
def zbR (s:List Term):Bool×Bool:=(zdC s).fin default
def zfF (r:Bool):ARes ty:=⟨[.pure (.lit (.bool r))],[]⟩
def zgK:AL base (List Term×Unit×Unit):=zf (zg (vSl 42)) (zf (zg (vFn 121 vNil)) aNil)
def zfw:Ab.Spec ty:=zr zgK fun x=>((zbR x.1).1,zfF (zbR x.1).2)
theorem zlh:Sound Tryz.prog base 105 zfw:=
 zD (cx':=zmo) zQ zB zL (zF ⟨zk9,(Sound.or (zgh) (zgh)),trivial⟩) Tryz.call105 Tryz.func105 (c:=body Tryz.f105) (by kernel_rfl) (zj (l:=[]) (by kernel_rfl) trivial) (sg:=⟨[.pure],[]⟩) (A:=zgK) (res:=zfF) (W:=fun x=>zdC x.1) (z:=default)
def zDn:Cx ty:=mkCx base 19 [(47,annotation_Size_spec),(105,zfw),(120,annotation_nesting_spec),(121,ziI)] [] [] [] [] []
def zqf (a:List Term):Wy0 (Bool):=.i (decide (Int.ofNat a.length>512)) (.k false) (.bn (zrR a) fun r2=>.i (decide (r2>8)) (.k false) (.bn (zvd a) fun r1=>.i (decide (r1>4096)) (.k false) (.bn (zbR a) fun r0=>.k (!r0))))
def zjq (a:List Term):Bool×Bool:=(zqf a).fin default
def zuc (r:Bool):ARes ty:=⟨[.pure (.lit (.bool r))],[]⟩
def zv4:AL base (List Term×Unit):=zf (zg (vSl 42)) aNil
def znR:Ab.Spec ty:=zr zv4 fun x=>((zjq x.1).1,zuc (zjq x.1).2)
theorem zsw:Sound Tryz.prog base 70 znR:=
 zD (cx':=zDn) zQ zB zL (zF ⟨zCr,zlh,zAQ,zk9,trivial⟩) Tryz.call70 Tryz.func70 (c:=body Tryz.f70) (by kernel_rfl) (zj (l:=[]) (by kernel_rfl) trivial) (sg:=⟨[.pure],[]⟩) (A:=zv4) (res:=zuc) (W:=fun x=>zqf x.1) (z:=default)
abbrev ttTannotationValid0:=List Term×Unit×List Term×Int×Int×List Factor×Int×Int×Unit
abbrev ttTannotationValid1:=Bool⊕(List Term×List Term×Int×Int)
abbrev ttTannotationValid2:=List Term×List Term×Int×Int×Unit
def ziz (zp:Atom→Bool×Bool) (a:List Term) (t10:List Term) (t11:Int) (t12:Int) (t40:List Factor) (t41:Int) (t42:Int) (t:Term):Wy ttTannotationValid0 (Term×Unit) ttTannotationValid1:=.i (decide (t42<t41)) (.i (decide (0≤t42)&&decide (t42<Int.ofNat t40.length)) (.i (decide ((t40.getD t42.toNat default).Exp<1)) (.k (.inl false)) (.bn (zev (Atom.mk (t40.getD t42.toNat default).Atom.Kind (t40.getD t42.toNat default).Atom.Row (t40.getD t42.toNat default).Atom.Args (t40.getD t42.toNat default).Atom.Func (t40.getD t42.toNat default).Atom.Items (t40.getD t42.toNat default).Atom.Op (t40.getD t42.toNat default).Atom.Bound)) fun r6=>.i (r6) (.i ((t40.getD t42.toNat default).Exp != 1) (.k (.inl false)) (.i (decide (t42>0)) (.i (decide (0≤IntKind.i64.wrap (t42 - 1))&&decide (IntKind.i64.wrap (t42 - 1)<Int.ofNat t.Factors.length)) (.bn (zhf (Atom.mk (t.Factors.getD (IntKind.i64.wrap (t42 - 1)).toNat default).Atom.Kind (t.Factors.getD (IntKind.i64.wrap (t42 - 1)).toNat default).Atom.Row (t.Factors.getD (IntKind.i64.wrap (t42 - 1)).toNat default).Atom.Args (t.Factors.getD (IntKind.i64.wrap (t42 - 1)).toNat default).Atom.Func (t.Factors.getD (IntKind.i64.wrap (t42 - 1)).toNat default).Atom.Items (t.Factors.getD (IntKind.i64.wrap (t42 - 1)).toNat default).Atom.Op (t.Factors.getD (IntKind.i64.wrap (t42 - 1)).toNat default).Atom.Bound) (Atom.mk (t40.getD t42.toNat default).Atom.Kind (t40.getD t42.toNat default).Atom.Row (t40.getD t42.toNat default).Atom.Args (t40.getD t42.toNat default).Atom.Func (t40.getD t42.toNat default).Atom.Items (t40.getD t42.toNat default).Atom.Op (t40.getD t42.toNat default).Atom.Bound)) fun r1=>.i (decide (r1≥0)) (.k (.inl false)) (.bn (zp (Atom.mk (t40.getD t42.toNat default).Atom.Kind (t40.getD t42.toNat default).Atom.Row (t40.getD t42.toNat default).Atom.Args (t40.getD t42.toNat default).Atom.Func (t40.getD t42.toNat default).Atom.Items (t40.getD t42.toNat default).Atom.Op (t40.getD t42.toNat default).Atom.Bound)) fun r0=>.i (!r0) (.k (.inl false)) (.h (a,(),t10,t11,t12,t40,t41,(IntKind.i64.wrap (t42+1)),()) (t,())))) .d) (.bn (zp (Atom.mk (t40.getD t42.toNat default).Atom.Kind (t40.getD t42.toNat default).Atom.Row (t40.getD t42.toNat default).Atom.Args (t40.getD t42.toNat default).Atom.Func (t40.getD t42.toNat default).Atom.Items (t40.getD t42.toNat default).Atom.Op (t40.getD t42.toNat default).Atom.Bound)) fun r2=>.i (!r2) (.k (.inl false)) (.h (a,(),t10,t11,t12,t40,t41,(IntKind.i64.wrap (t42+1)),()) (t,()))))) (.i (decide (t42>0)) (.i (decide (0≤IntKind.i64.wrap (t42 - 1))&&decide (IntKind.i64.wrap (t42 - 1)<Int.ofNat t.Factors.length)) (.bn (zhf (Atom.mk (t.Factors.getD (IntKind.i64.wrap (t42 - 1)).toNat default).Atom.Kind (t.Factors.getD (IntKind.i64.wrap (t42 - 1)).toNat default).Atom.Row (t.Factors.getD (IntKind.i64.wrap (t42 - 1)).toNat default).Atom.Args (t.Factors.getD (IntKind.i64.wrap (t42 - 1)).toNat default).Atom.Func (t.Factors.getD (IntKind.i64.wrap (t42 - 1)).toNat default).Atom.Items (t.Factors.getD (IntKind.i64.wrap (t42 - 1)).toNat default).Atom.Op (t.Factors.getD (IntKind.i64.wrap (t42 - 1)).toNat default).Atom.Bound) (Atom.mk (t40.getD t42.toNat default).Atom.Kind (t40.getD t42.toNat default).Atom.Row (t40.getD t42.toNat default).Atom.Args (t40.getD t42.toNat default).Atom.Func (t40.getD t42.toNat default).Atom.Items (t40.getD t42.toNat default).Atom.Op (t40.getD t42.toNat default).Atom.Bound)) fun r4=>.i (decide (r4≥0)) (.k (.inl false)) (.bn (zp (Atom.mk (t40.getD t42.toNat default).Atom.Kind (t40.getD t42.toNat default).Atom.Row (t40.getD t42.toNat default).Atom.Args (t40.getD t42.toNat default).Atom.Func (t40.getD t42.toNat default).Atom.Items (t40.getD t42.toNat default).Atom.Op (t40.getD t42.toNat default).Atom.Bound)) fun r3=>.i (!r3) (.k (.inl false)) (.h (a,(),t10,t11,t12,t40,t41,(IntKind.i64.wrap (t42+1)),()) (t,())))) .d) (.bn (zp (Atom.mk (t40.getD t42.toNat default).Atom.Kind (t40.getD t42.toNat default).Atom.Row (t40.getD t42.toNat default).Atom.Args (t40.getD t42.toNat default).Atom.Func (t40.getD t42.toNat default).Atom.Items (t40.getD t42.toNat default).Atom.Op (t40.getD t42.toNat default).Atom.Bound)) fun r5=>.i (!r5) (.k (.inl false)) (.h (a,(),t10,t11,t12,t40,t41,(IntKind.i64.wrap (t42+1)),()) (t,())))))) .d) (.k (.inr (a,t10,t11,t12)))
def zk1 (zp:Atom→Bool×Bool) (x:ttTannotationValid0) (y:Term×Unit):Wy ttTannotationValid0 (Term×Unit) ttTannotationValid1:=ziz zp x.1 x.2.2.1 x.2.2.2.1 x.2.2.2.2.1 x.2.2.2.2.2.1 x.2.2.2.2.2.2.1 x.2.2.2.2.2.2.2.1 y.1
def zoN (zp:Atom→Bool×Bool) (n:Nat) (a:List Term) (t10:List Term) (t11:Int) (t12:Int) (t40:List Factor) (t41:Int) (t42:Int) (t:Term):Bool×ttTannotationValid1:=zN (zk1 zp) (.inl default) n (a,(),t10,t11,t12,t40,t41,t42,()) (t,())
def zsY (r:ttTannotationValid1):LTree ty:=.ite (isL r) (.done .ret [.lit (.bool (getL r))] []) (.done (.exit 2) [.sl 42 (getR r).1,.sl 42 (getR r).2.1,.lit (.int .i64 (getR r).2.2.1),.lit (.int .i64 (getR r).2.2.2)] [])
def zug:LL ty ttTannotationValid0:=za (lSl 42) (za (zqQ 340 0) (za (lSl 42) (za (lInt .i64) (za (lInt .i64) (za (lSl 50) (za (lInt .i64) (za (lInt .i64) zS)))))))
def zuq:BL ty (Term×Unit):=bBox (ztB (fun x=>(⟨x.1,x.2.1⟩:Term)) (fun x=>(x.Coeff,x.Factors,())) (fun _=>rfl) (za (lInt .i64) (za (lSl 50) zS))) false (bNil)
def zir (zp:Atom→Bool×Bool) (a:List Term) (t10:List Term) (t11:Int) (t12:Int):Wy ttTannotationValid2 (Unit) (Bool⊕Unit):=.i (decide (t12<t11)) (.i (decide (0≤t12)&&decide (t12<Int.ofNat t10.length)) (.i (decide ((t10.getD t12.toNat default).Coeff<1)) (.k (.inl false)) (.i (decide ((t10.getD t12.toNat default).Coeff>1152921504606846976)) (.k (.inl false)) (.i (decide (t12>0)) (.i (decide (0≤IntKind.i64.wrap (t12 - 1))&&decide (IntKind.i64.wrap (t12 - 1)<Int.ofNat a.length)) (.bn (zbz (a.getD (IntKind.i64.wrap (t12 - 1)).toNat default) (t10.getD t12.toNat default)) fun r15=>.i (decide (r15≥0)) (.k (.inl false)) (.bn (zoN zp (a.length+t10.length+t11.toNat +t12.toNat +(t10.getD t12.toNat default).Factors.length+(Int.ofNat (t10.getD t12.toNat default).Factors.length).toNat +Int.toNat 0+(t10.getD t12.toNat default).Factors.length+1) a t10 t11 t12 (t10.getD t12.toNat default).Factors (Int.ofNat (t10.getD t12.toNat default).Factors.length) 0 (t10.getD t12.toNat default)) fun r14=>.i (isL r14) (.k (.inl (getL r14))) (.h ((getR r14).1,(getR r14).2.1,(getR r14).2.2.1,(IntKind.i64.wrap ((getR r14).2.2.2+1)),()) ()))) .d) (.bn (zoN zp (a.length+t10.length+t11.toNat +t12.toNat +(t10.getD t12.toNat default).Factors.length+(Int.ofNat (t10.getD t12.toNat default).Factors.length).toNat +Int.toNat 0+(t10.getD t12.toNat default).Factors.length+1) a t10 t11 t12 (t10.getD t12.toNat default).Factors (Int.ofNat (t10.getD t12.toNat default).Factors.length) 0 (t10.getD t12.toNat default)) fun r16=>.i (isL r16) (.k (.inl (getL r16))) (.h ((getR r16).1,(getR r16).2.1,(getR r16).2.2.1,(IntKind.i64.wrap ((getR r16).2.2.2+1)),()) ()))))) .d) (.k (.inr ()))
def zkV (zp:Atom→Bool×Bool) (x:ttTannotationValid2) (y:Unit):Wy ttTannotationValid2 (Unit) (Bool⊕Unit):=zir zp x.1 x.2.1 x.2.2.1 x.2.2.2.1
def zt5 (zp:Atom→Bool×Bool) (n:Nat) (a:List Term) (t10:List Term) (t11:Int) (t12:Int):Bool×(Bool⊕Unit):=zN (zkV zp) (.inl default) n (a,t10,t11,t12,()) ()
def zto (r:Bool⊕Unit):LTree ty:=.ite (isL r) (.done .ret [.lit (.bool (getL r))] []) (.done (.exit 0) [] [])
def ztX:LL ty ttTannotationValid2:=za (lSl 42) (za (lSl 42) (za (lInt .i64) (za (lInt .i64) zS)))
def zul:BL ty (Unit):=bNil
def ztm (x:ttTannotationValid0) (y:Term×Unit):Nat:=(x.1.length+x.2.2.1.length+Int.toNat x.2.2.2.1+Int.toNat x.2.2.2.2.1+x.2.2.2.2.2.1.length+Int.toNat x.2.2.2.2.2.2.1+Int.toNat x.2.2.2.2.2.2.2.1+y.1.Factors.length+1)
def ztj (x:ttTannotationValid2) (y:Unit):Nat:=(x.1.length+x.2.1.length+Int.toNat x.2.2.1+Int.toNat x.2.2.2.1+1)
def zor (zp:Atom→Bool×Bool):Cx ty:=mkCx base 85 [(70,znR),(71,annotation_compareLists_spec),(72,zii),(73,annotation_compareAtoms_spec),(74,(zkn zp))] [] [(4,[(0,.keep),(10,.keep),(11,.keep),(12,.keep)]),(9,[(0,.keep),(4,.keep),(10,.keep),(11,.keep),(12,.keep),(40,.keep),(41,.keep),(42,.keep)])] [(4,1,[]),(4,0,[(2,.keep)]),(9,3,[(0,.keep),(10,.keep),(11,.keep),(12,.keep)]),(9,0,[(2,.keep)])] [(9,spW zug zuq (zk1 zp) (.inl default) zsY ztm),(4,spW ztX zul (zkV zp) (.inl default) zto ztj)] []
theorem zB1 (zp:Atom→Bool×Bool):zbp (zor zp) (lp (body Tryz.f31) 1):=zY (id:=9) (V:=zug) (B:=zuq) (W:=zk1 zp) (z:=.inl default) (tr:=zsY) (m:=ztm)
theorem zCc (zp:Atom→Bool×Bool):zbp (zor zp) (lp (body Tryz.f31) 0):=zY (id:=4) (V:=ztX) (B:=zul) (W:=zkV zp) (z:=.inl default) (tr:=zto) (m:=ztj)
def zpu (zp:Atom→Bool×Bool) (a:List Term):Wy0 (Bool):=.bn (zjq a) fun r21=>.i (!r21) (.k false) (.bn (zt5 zp (a.length+a.length+(Int.ofNat a.length).toNat +Int.toNat 0+1) a a (Int.ofNat a.length) 0) fun r20=>.i (isL r20) (.k (getL r20)) (.k true))
def zkw (zp:Atom→Bool×Bool) (a:List Term):Bool×Bool:=(zpu zp a).fin default
theorem zAT (zp:Atom→Bool×Bool) (zAg:Sound Tryz.prog base 74 (zkn zp)):Sound Tryz.prog base 31 (zgG (zkw zp)):=
 zD (cx':=(zor zp)) zQ zB zL (zF ⟨zsw,zjF,zkC,zob,zAg,trivial⟩) Tryz.call31 Tryz.func31 (c:=body Tryz.f31) (by kernel_rfl) (zj (l:=[lp (body Tryz.f31) 0,lp (body Tryz.f31) 1]) (by kernel_rfl) ⟨zCc zp,zB1 zp,trivial⟩) (sg:=⟨[.pure],[]⟩) (A:=zxV) (res:=zvp) (W:=fun x=>zpu zp x.1) (z:=default)
def zEH:Cx ty:=mkCx base 9 [(38,annotation_Compare_spec)] [] [] [] [] []
def zrc (a:List Term) (b:List Term):Wy0 (Bool):=.bn (zrP a b) fun r0=>.k (r0==0)
def zca (a:List Term) (b:List Term):Bool×Bool:=(zrc a b).fin default
def zuZ (r:Bool):ARes ty:=⟨[.pure (.lit (.bool r))],[]⟩
def zyj:AL base (List Term×List Term×Unit):=zf (zg (vSl 42)) (zf (zg (vSl 42)) aNil)
def zkR:Ab.Spec ty:=zr zyj fun x=>((zca x.1 x.2.1).1,zuZ (zca x.1 x.2.1).2)
theorem znZ:Sound Tryz.prog base 32 zkR:=
 zD (cx':=zEH) zQ zB zL (zF ⟨zz1,trivial⟩) Tryz.call32 Tryz.func32 (c:=body Tryz.f32) (by kernel_rfl) (zj (l:=[]) (by kernel_rfl) trivial) (sg:=⟨[.pure],[]⟩) (A:=zyj) (res:=zuZ) (W:=fun x=>zrc x.1 x.2.1) (z:=default)
def zIk:Cx ty:=mkCx base 36 [] [] [] [] [] []
def zyv (v:Value):Wy0 (Bool):=.i (v.Kind==0) (.k (v.Text.toList==(ByteArray.mk #[]).toList)) (.i (v.Kind==1) (.i (v.Int==0) (.k (decide (Int.ofNat v.Text.size≤255))) (.k false)) (.i (v.Kind==2) (.i (v.Int==0) (.k (v.Text.toList==(ByteArray.mk #[]).toList)) (.i (v.Int==1) (.k (v.Text.toList==(ByteArray.mk #[]).toList)) (.k false))) (.k false)))
def znP (v:Value):Bool×Bool:=(zyv v).fin default
def zBO (r:Bool):ARes ty:=⟨[.pure (.lit (.bool r))],[]⟩
def zD8:AL base (Value×Unit):=zf (zg (vAgg 46)) aNil
def zpC:Ab.Spec ty:=zr zD8 fun x=>((znP x.1).1,zBO (znP x.1).2)
theorem zsU:Sound Tryz.prog base 133 zpC:=
 zD (cx':=zIk) zQ zB zL (zF trivial) Tryz.call133 Tryz.func133 (c:=body Tryz.f133) (by kernel_rfl) (zj (l:=[]) (by kernel_rfl) trivial) (sg:=⟨[.pure],[]⟩) (A:=zD8) (res:=zBO) (W:=fun x=>zyv x.1) (z:=default)
def zAs:Cx ty:=mkCx base 27 [(133,zpC)] [] [] [] [] []
def znf (w:Weighted) (p1:Value) (p2:Int):Wy0 (Bool):=.bn (znP w.Value) fun r0=>.i (!r0) (.k true) (.i (w.Value.Kind != p1.Kind) (.k true) (.i (p2==0) (.k (w.Value.Int != 1)) (.k false)))
def zf8 (w:Weighted) (p1:Value) (p2:Int):Bool×Bool:=(znf w p1 p2).fin default
def zqB (r:Bool):ARes ty:=⟨[.pure (.lit (.bool r))],[]⟩
def zsn:AL base (Weighted×Value×(Int×Unit)×Unit):=zf (zg (vAgg 52)) (zf (zg (zId 46)) (zf (zg (vBox (zrV (vInt .i64) vNil))) aNil))
def zih:Ab.Spec ty:=zr zsn fun x=>((zf8 x.1 x.2.1 x.2.2.1.1).1,zqB (zf8 x.1 x.2.1 x.2.2.1.1).2)
theorem zkG:Sound Tryz.prog base 134 zih:=
 zD (cx':=zAs) zQ zB zL (zF ⟨zsU,trivial⟩) Tryz.call134 Tryz.func134 (c:=body Tryz.f134) (by kernel_rfl) (zj (l:=[]) (by kernel_rfl) trivial) (sg:=⟨[.pure],[]⟩) (A:=zsn) (res:=zqB) (W:=fun x=>znf x.1 x.2.1 x.2.2.1.1) (z:=default)
abbrev ttTslicesIndexFuncLapiWeightedapiWeightedfi0:=List Weighted×(Value×(Int×Unit)×Unit)×Int×Int×Unit
def zmu (s:List Weighted) (f_0:Value) (f_1:Int) (t7:Int) (t8:Int):Wy ttTslicesIndexFuncLapiWeightedapiWeightedfi0 (Unit) (Int⊕Unit):=.i (decide (t8<t7)) (.i (decide (0≤t8)&&decide (t8<Int.ofNat s.length)) (.bn (zf8 (s.getD t8.toNat default) f_0 f_1) fun r0=>.i (r0) (.k (.inl t8)) (.h (s,(f_0,(f_1,()),()),t7,(IntKind.i64.wrap (t8+1)),()) ())) .d) (.k (.inr ()))
def zdz (x:ttTslicesIndexFuncLapiWeightedapiWeightedfi0) (y:Unit):Wy ttTslicesIndexFuncLapiWeightedapiWeightedfi0 (Unit) (Int⊕Unit):=zmu x.1 x.2.1.1 x.2.1.2.1.1 x.2.2.1 x.2.2.2.1
def zmt (n:Nat) (s:List Weighted) (f_0:Value) (f_1:Int) (t7:Int) (t8:Int):Bool×(Int⊕Unit):=zN (zdz) (.inl default) n (s,(f_0,(f_1,()),()),t7,t8,()) ()
def zfR (r:Int⊕Unit):LTree ty:=.ite (isL r) (.done .ret [.lit (.int .i64 (getL r))] []) (.done (.exit 0) [] [])
def zf7:LL ty ttTslicesIndexFuncLapiWeightedapiWeightedfi0:=za (lSl 52) (za (lFn 134 (za (zx5 (ztB (fun x=>(⟨x.1,x.2.1,x.2.2.1⟩:Value)) (fun x=>(x.Kind,x.Int,x.Text,())) (fun _=>rfl) (za (lInt .i64) (za (lInt .i64) (za lStr zS)))) 0) (za (zx5 (za (lInt .i64) zS) 0) zS))) (za (lInt .i64) (za (lInt .i64) zS)))
def zgi:BL ty (Unit):=bNil
def zfP (x:ttTslicesIndexFuncLapiWeightedapiWeightedfi0) (y:Unit):Nat:=(x.1.length+Int.toNat x.2.1.2.1.1+Int.toNat x.2.2.1+Int.toNat x.2.2.2.1+1)
def zf9:Cx ty:=mkCx base 19 [(134,zih)] [] [(2,[(0,.keep),(1,.keep),(7,.keep),(8,.keep)])] [(2,1,[]),(2,0,[(4,.keep)])] [(2,spW zf7 zgi (zdz) (.inl default) zfR zfP)] []
theorem zlZ:zbp zf9 (lp (body Tryz.f135) 0):=zY (id:=2) (V:=zf7) (B:=zgi) (W:=zdz) (z:=.inl default) (tr:=zfR) (m:=zfP)
def zgN (s:List Weighted) (f_0:Value) (f_1:Int):Wy0 (Int):=.bn (zmt (s.length+f_1.toNat +(Int.ofNat s.length).toNat +Int.toNat 0+1) s f_0 f_1 (Int.ofNat s.length) 0) fun r2=>.i (isL r2) (.k (getL r2)) (.k (-1:Int))
def zcx (s:List Weighted) (f_0:Value) (f_1:Int):Bool×Int:=(zgN s f_0 f_1).fin default
def zfO (r:Int):ARes ty:=⟨[.pure (.lit (.int .i64 r))],[]⟩
def zgv:AL base (List Weighted×(Value×(Int×Unit)×Unit)×Unit):=zf (zg (vSl 52)) (zf (zg (vFn 134 (zrV (zId 46) (zrV (vBox (zrV (vInt .i64) vNil)) vNil)))) aNil)
def zfp:Ab.Spec ty:=zr zgv fun x=>((zcx x.1 x.2.1.1 x.2.1.2.1.1).1,zfO (zcx x.1 x.2.1.1 x.2.1.2.1.1).2)
theorem zlc:Sound Tryz.prog base 135 zfp:=
 zD (cx':=zf9) zQ zB zL (zF ⟨zkG,trivial⟩) Tryz.call135 Tryz.func135 (c:=body Tryz.f135) (by kernel_rfl) (zj (l:=[lp (body Tryz.f135) 0]) (by kernel_rfl) ⟨zlZ,trivial⟩) (sg:=⟨[.pure],[]⟩) (A:=zgv) (res:=zfO) (W:=fun x=>zgN x.1 x.2.1.1 x.2.1.2.1.1) (z:=default)
def zlf:Cx ty:=mkCx base 9 [(134,zih),(135,zfp)] [] [] [] [] []
def zdi (s:List Weighted) (f_0:Value) (f_1:Int):Wy0 (Bool):=.bn (zcx s f_0 f_1) fun r0=>.k (decide (r0≥0))
def zbe (s:List Weighted) (f_0:Value) (f_1:Int):Bool×Bool:=(zdi s f_0 f_1).fin default
def ze4 (r:Bool):ARes ty:=⟨[.pure (.lit (.bool r))],[]⟩
def zfy:AL base (List Weighted×(Value×(Int×Unit)×Unit)×Unit):=zf (zg (vSl 52)) (zf (zg (vFn 134 (zrV (zId 46) (zrV (vBox (zrV (vInt .i64) vNil)) vNil)))) aNil)
def zeI:Ab.Spec ty:=zr zfy fun x=>((zbe x.1 x.2.1.1 x.2.1.2.1.1).1,ze4 (zbe x.1 x.2.1.1 x.2.1.2.1.1).2)
theorem zkh:Sound Tryz.prog base 76 zeI:=
 zD (cx':=zlf) zQ zB zL (zF ⟨zkG,zlc,trivial⟩) Tryz.call76 Tryz.func76 (c:=body Tryz.f76) (by kernel_rfl) (zj (l:=[]) (by kernel_rfl) trivial) (sg:=⟨[.pure],[]⟩) (A:=zfy) (res:=ze4) (W:=fun x=>zdi x.1 x.2.1.1 x.2.1.2.1.1) (z:=default)
def zCN:Cx ty:=mkCx base 43 [(76,zeI),(133,zpC),(134,zih)] [] [] [] [] []
def zpl (fn:Int) (items:List Weighted) (op:Int) (bound:Value):Wy0 (Bool):=.i (decide (fn<0)) (.k false) (.i (decide (fn>3)) (.k false) (.i (decide (op<5)) (.k false) (.i (decide (op>10)) (.k false) (.bn (znP bound) fun r3=>.i (!r3) (.k false) (.i (fn==0) (.i (bound.Kind != 0) (.k false) (.bn (zbe items bound fn) fun r0=>.k (!r0))) (.i (fn==1) (.i (bound.Kind != 0) (.k false) (.bn (zbe items bound fn) fun r1=>.k (!r1))) (.bn (zbe items bound fn) fun r2=>.k (!r2))))))))
def ziw (fn:Int) (items:List Weighted) (op:Int) (bound:Value):Bool×Bool:=(zpl fn items op bound).fin default
def ztb (r:Bool):ARes ty:=⟨[.pure (.lit (.bool r))],[]⟩
def zvM:AL base (Int×List Weighted×Int×Value×Unit):=zf (zg (vInt .i64)) (zf (zg (vSl 52)) (zf (zg (vInt .i64)) (zf (zg (vAgg 46)) aNil)))
def zni:Ab.Spec ty:=zr zvM fun x=>((ziw x.1 x.2.1 x.2.2.1 x.2.2.2.1).1,ztb (ziw x.1 x.2.1 x.2.2.1 x.2.2.2.1).2)
theorem zq5:Sound Tryz.prog base 75 zni:=
 zD (cx':=zCN) zQ zB zL (zF ⟨zkh,zsU,zkG,trivial⟩) Tryz.call75 Tryz.func75 (c:=body Tryz.f75) (by kernel_rfl) (zj (l:=[]) (by kernel_rfl) trivial) (sg:=⟨[.pure],[]⟩) (A:=zvM) (res:=ztb) (W:=fun x=>zpl x.1 x.2.1 x.2.2.1 x.2.2.2.1) (z:=default)
def zwI:Cx ty:=mkCx base 7 [] [] [] [] [] []
def zkK (t:Term):Wy0 (Bool):=.k (Int.ofNat t.Factors.length==0)
def zfJ (t:Term):Bool×Bool:=(zkK t).fin default
def zoc (r:Bool):ARes ty:=⟨[.pure (.lit (.bool r))],[]⟩
def zpa:AL base (Term×Unit):=zf (zg (vAgg 42)) aNil
def zfN:Ab.Spec ty:=zr zpa fun x=>((zfJ x.1).1,zoc (zfJ x.1).2)
theorem ziL:Sound Tryz.prog base 119 zfN:=
 zD (cx':=zwI) zQ zB zL (zF trivial) Tryz.call119 Tryz.func119 (c:=body Tryz.f119) (by kernel_rfl) (zj (l:=[]) (by kernel_rfl) trivial) (sg:=⟨[.pure],[]⟩) (A:=zpa) (res:=zoc) (W:=fun x=>zkK x.1) (z:=default)
abbrev ttTslicesIndexFuncapiAnnotationapiTermhc0:=List Term×Unit×Int×Int×Unit
def znc (s:List Term) (t7:Int) (t8:Int):Wy ttTslicesIndexFuncapiAnnotationapiTermhc0 (Unit) (Int⊕Unit):=.i (decide (t8<t7)) (.i (decide (0≤t8)&&decide (t8<Int.ofNat s.length)) (.i ((zfJ (s.getD t8.toNat default)).2) (.k (.inl t8)) (.h (s,(),t7,(IntKind.i64.wrap (t8+1)),()) ())) .d) (.k (.inr ()))
def zdS (x:ttTslicesIndexFuncapiAnnotationapiTermhc0) (y:Unit):Wy ttTslicesIndexFuncapiAnnotationapiTermhc0 (Unit) (Int⊕Unit):=znc x.1 x.2.2.1 x.2.2.2.1
def zne (n:Nat) (s:List Term) (t7:Int) (t8:Int):Bool×(Int⊕Unit):=zN (zdS) (.inl default) n (s,(),t7,t8,()) ()
def zgV (r:Int⊕Unit):LTree ty:=.ite (isL r) (.done .ret [.lit (.int .i64 (getL r))] []) (.done (.exit 0) [] [])
def zhw:LL ty ttTslicesIndexFuncapiAnnotationapiTermhc0:=za (lSl 42) (za (lFn 119 (zS)) (za (lInt .i64) (za (lInt .i64) zS)))
def zhi:BL ty (Unit):=bNil
def zg1 (x:ttTslicesIndexFuncapiAnnotationapiTermhc0) (y:Unit):Nat:=(x.1.length+Int.toNat x.2.2.1+Int.toNat x.2.2.2.1+1)
def zho:Cx ty:=mkCx base 19 [(119,zfN)] [] [(2,[(0,.keep),(1,.keep),(7,.keep),(8,.keep)])] [(2,1,[]),(2,0,[(4,.keep)])] [(2,spW zhw zhi (zdS) (.inl default) zgV zg1)] []
theorem zm7:zbp zho (lp (body Tryz.f149) 0):=zY (id:=2) (V:=zhw) (B:=zhi) (W:=zdS) (z:=.inl default) (tr:=zgV) (m:=zg1)
def zhR (s:List Term):Wy0 (Int):=.bn (zne (s.length+(Int.ofNat s.length).toNat +Int.toNat 0+1) s (Int.ofNat s.length) 0) fun r0=>.i (isL r0) (.k (getL r0)) (.k (-1:Int))
def zcT (s:List Term):Bool×Int:=(zhR s).fin default
def zgW (r:Int):ARes ty:=⟨[.pure (.lit (.int .i64 r))],[]⟩
def zhS:AL base (List Term×Unit×Unit):=zf (zg (vSl 42)) (zf (zg (vFn 119 vNil)) aNil)
def zdF:Ab.Spec ty:=zr zhS fun x=>((zcT x.1).1,zgW (zcT x.1).2)
theorem zgk:Sound Tryz.prog base 149 zdF:=
 zD (cx':=zho) zQ zB zL (zF ⟨ziL,trivial⟩) Tryz.call149 Tryz.func149 (c:=body Tryz.f149) (by kernel_rfl) (zj (l:=[lp (body Tryz.f149) 0]) (by kernel_rfl) ⟨zm7,trivial⟩) (sg:=⟨[.pure],[]⟩) (A:=zhS) (res:=zgW) (W:=fun x=>zhR x.1) (z:=default)
def zmz:Cx ty:=mkCx base 9 [(119,zfN),(149,(zE8 zdF zdF))] [] [] [] [] []
def zdG (s:List Term):Wy0 (Bool):=.bn (zcT s) fun r0=>.k (decide (r0≥0))
def zcy (s:List Term):Bool×Bool:=(zdG s).fin default
def zfK (r:Bool):ARes ty:=⟨[.pure (.lit (.bool r))],[]⟩
def zgs:AL base (List Term×Unit×Unit):=zf (zg (vSl 42)) (zf (zg (vFn 119 vNil)) aNil)
def zfq:Ab.Spec ty:=zr zgs fun x=>((zcy x.1).1,zfK (zcy x.1).2)
theorem zld:Sound Tryz.prog base 105 zfq:=
 zD (cx':=zmz) zQ zB zL (zF ⟨ziL,(Sound.or (zgk) (zgk)),trivial⟩) Tryz.call105 Tryz.func105 (c:=body Tryz.f105) (by kernel_rfl) (zj (l:=[]) (by kernel_rfl) trivial) (sg:=⟨[.pure],[]⟩) (A:=zgs) (res:=zfK) (W:=fun x=>zdG x.1) (z:=default)
def zzF:Cx ty:=mkCx base 5 [(105,zfq),(119,zfN)] [] [] [] [] []
def zmB (a:List Term):Wy0 (Bool):=.bn (zcy a) fun r0=>.k r0
def zd0 (a:List Term):Bool×Bool:=(zmB a).fin default
def zpM (r:Bool):ARes ty:=⟨[.pure (.lit (.bool r))],[]⟩
def zq1:AL base (List Term×Unit):=zf (zg (vSl 42)) aNil
def zkN:Ab.Spec ty:=zr zq1 fun x=>((zd0 x.1).1,zpM (zd0 x.1).2)
theorem zow:Sound Tryz.prog base 68 zkN:=
 zD (cx':=zzF) zQ zB zL (zF ⟨zld,ziL,trivial⟩) Tryz.call68 Tryz.func68 (c:=body Tryz.f68) (by kernel_rfl) (zj (l:=[]) (by kernel_rfl) trivial) (sg:=⟨[.pure],[]⟩) (A:=zq1) (res:=zpM) (W:=fun x=>zmB x.1) (z:=default)
def zAz:Cx ty:=mkCx base 14 [] [] [] [] [] []
def zng (a:List Term):Wy0 (Bool):=.i (Int.ofNat a.length==1) (.i (decide ((0:Int)≤(0:Int))&&decide (0<Int.ofNat a.length)) (.k (Int.ofNat (a.getD (Int.toNat 0) default).Factors.length==0)) .d) (.k false)
def zgf (a:List Term):Bool×Bool:=(zng a).fin default
def zqO (r:Bool):ARes ty:=⟨[.pure (.lit (.bool r))],[]⟩
def zsd:AL base (List Term×Unit):=zf (zg (vSl 42)) aNil
def zlg:Ab.Spec ty:=zr zsd fun x=>((zgf x.1).1,zqO (zgf x.1).2)
theorem zpi:Sound Tryz.prog base 65 zlg:=
 zD (cx':=zAz) zQ zB zL (zF trivial) Tryz.call65 Tryz.func65 (c:=body Tryz.f65) (by kernel_rfl) (zj (l:=[]) (by kernel_rfl) trivial) (sg:=⟨[.pure],[]⟩) (A:=zsd) (res:=zqO) (W:=fun x=>zng x.1) (z:=default)
def zDO:Cx ty:=mkCx base 42 [(72,zii)] [] [] [] [] []
def zqk (a:List Term):Wy0 (Bool):=.i (Int.ofNat a.length != 1) (.k false) (.i (decide ((0:Int)≤(0:Int))&&decide (0<Int.ofNat a.length)) (.i ((a.getD (Int.toNat 0) default).Coeff != 1) (.k false) (.i (decide ((0:Int)≤(0:Int))&&decide (0<Int.ofNat a.length)) (.i (Int.ofNat (a.getD (Int.toNat 0) default).Factors.length != 1) (.k false) (.i (decide ((0:Int)≤(0:Int))&&decide (0<Int.ofNat a.length)) (.i (decide ((0:Int)≤(0:Int))&&decide (0<Int.ofNat (a.getD (Int.toNat 0) default).Factors.length)) (.i (((a.getD (Int.toNat 0) default).Factors.getD (Int.toNat 0) default).Exp==1) (.i (((a.getD (Int.toNat 0) default).Factors.getD (Int.toNat 0) default).Atom.Kind==2) (.k true) (.bn (zev (Atom.mk ((a.getD (Int.toNat 0) default).Factors.getD (Int.toNat 0) default).Atom.Kind ((a.getD (Int.toNat 0) default).Factors.getD (Int.toNat 0) default).Atom.Row ((a.getD (Int.toNat 0) default).Factors.getD (Int.toNat 0) default).Atom.Args ((a.getD (Int.toNat 0) default).Factors.getD (Int.toNat 0) default).Atom.Func ((a.getD (Int.toNat 0) default).Factors.getD (Int.toNat 0) default).Atom.Items ((a.getD (Int.toNat 0) default).Factors.getD (Int.toNat 0) default).Atom.Op ((a.getD (Int.toNat 0) default).Factors.getD (Int.toNat 0) default).Atom.Bound)) fun r0=>.k r0)) (.k false)) .d) .d)) .d)) .d)
def zjn (a:List Term):Bool×Bool:=(zqk a).fin default
def zt7 (r:Bool):ARes ty:=⟨[.pure (.lit (.bool r))],[]⟩
def zwi:AL base (List Term×Unit):=zf (zg (vSl 42)) aNil
def znK:Ab.Spec ty:=zr zwi fun x=>((zjn x.1).1,zt7 (zjn x.1).2)
theorem zsp:Sound Tryz.prog base 64 znK:=
 zD (cx':=zDO) zQ zB zL (zF ⟨zkC,trivial⟩) Tryz.call64 Tryz.func64 (c:=body Tryz.f64) (by kernel_rfl) (zj (l:=[]) (by kernel_rfl) trivial) (sg:=⟨[.pure],[]⟩) (A:=zwi) (res:=zt7) (W:=fun x=>zqk x.1) (z:=default)
def zHB:Cx ty:=mkCx base 11 [] [] [] [] [] []
def zwL (id:RowID):Wy0 (Bool):=.i (decide (id.Table≥1)) (.k (decide (id.Seq≥1))) (.k false)
def zmC (id:RowID):Bool×Bool:=(zwL id).fin default
def zz7 (r:Bool):ARes ty:=⟨[.pure (.lit (.bool r))],[]⟩
def zCS:AL base (RowID×Unit):=zf (zg (vAgg 25)) aNil
def zog:Ab.Spec ty:=zr zCS fun x=>((zmC x.1).1,zz7 (zmC x.1).2)
theorem zrA:Sound Tryz.prog base 69 zog:=
 zD (cx':=zHB) zQ zB zL (zF trivial) Tryz.call69 Tryz.func69 (c:=body Tryz.f69) (by kernel_rfl) (zj (l:=[]) (by kernel_rfl) trivial) (sg:=⟨[.pure],[]⟩) (A:=zCS) (res:=zz7) (W:=fun x=>zwL x.1) (z:=default)
abbrev ttTslicesIsSortedFuncLapiWeightedapiWeighted0:=List Weighted×Unit×Int×Unit
def zdv (x_:List Weighted) (i:Int):Wy ttTslicesIsSortedFuncLapiWeightedapiWeighted0 (Unit) (Bool⊕Unit):=.i (decide (i>0)) (.i (decide (0≤i)&&decide (i<Int.ofNat x_.length)) (.i (decide (0≤IntKind.i64.wrap (i - 1))&&decide (IntKind.i64.wrap (i - 1)<Int.ofNat x_.length)) (.bn (zbl (x_.getD i.toNat default) (x_.getD (IntKind.i64.wrap (i - 1)).toNat default)) fun r0=>.i (decide (r0<0)) (.k (.inl false)) (.h (x_,(),(IntKind.i64.wrap (i - 1)),()) ())) .d) .d) (.k (.inr ()))
def zdw (x:ttTslicesIsSortedFuncLapiWeightedapiWeighted0) (y:Unit):Wy ttTslicesIsSortedFuncLapiWeightedapiWeighted0 (Unit) (Bool⊕Unit):=zdv x.1 x.2.2.1
def zdu (n:Nat) (x_:List Weighted) (i:Int):Bool×(Bool⊕Unit):=zN (zdw) (.inl default) n (x_,(),i,()) ()
def zfL (r:Bool⊕Unit):LTree ty:=.ite (isL r) (.done .ret [.lit (.bool (getL r))] []) (.done (.exit 0) [] [])
def zga:LL ty ttTslicesIsSortedFuncLapiWeightedapiWeighted0:=za (lSl 52) (za (lFn 85 (zS)) (za (lInt .i64) zS))
def zgl:BL ty (Unit):=bNil
def zgg:Cx ty:=mkCx base 25 [(85,annotation_compareItems_spec)] [] [(2,[(0,.keep),(1,.keep),(5,.keep)])] [(2,1,[]),(2,0,[(4,.keep)])] [(2,spW zga zgl (zdw) (.inl default) zfL fun x y=>(x.1.length+Int.toNat x.2.2.1+1))] []
theorem zlU:zbp zgg (lp (body Tryz.f132) 0):=zY (id:=2) (V:=zga) (B:=zgl) (W:=zdw) (z:=.inl default) (tr:=zfL) (m:=fun x y=>(x.1.length+Int.toNat x.2.2.1+1))
def zdD (x_:List Weighted):Wy0 (Bool):=.bn (zdu (x_.length+(IntKind.i64.wrap (Int.ofNat x_.length - 1)).toNat +1) x_ (IntKind.i64.wrap (Int.ofNat x_.length - 1))) fun r2=>.i (isL r2) (.k (getL r2)) (.k true)
def zbQ (x_:List Weighted):Bool×Bool:=(zdD x_).fin default
def zfU (r:Bool):ARes ty:=⟨[.pure (.lit (.bool r))],[]⟩
def zgC:AL base (List Weighted×Unit×Unit):=zf (zg (vSl 52)) (zf (zg (vFn 85 vNil)) aNil)
def zfA:Ab.Spec ty:=zr zgC fun x=>((zbQ x.1).1,zfU (zbQ x.1).2)
theorem zla:Sound Tryz.prog base 132 zfA:=
 zD (cx':=zgg) zQ zB zL (zF ⟨zgn,trivial⟩) Tryz.call132 Tryz.func132 (c:=body Tryz.f132) (by kernel_rfl) (zj (l:=[lp (body Tryz.f132) 0]) (by kernel_rfl) ⟨zlU,trivial⟩) (sg:=⟨[.pure],[]⟩) (A:=zgC) (res:=zfU) (W:=fun x=>zdD x.1) (z:=default)
def zck (zc:List Weighted→Bool×Bool) (zb:List (List Term)→Bool×Bool) (zd:List Term→Bool×Bool) (ze:Weighted→Bool×Bool):Cx ty:=mkCx base 149 [(32,zkR),(64,znK),(65,zlg),(68,zkN),(69,zog),(75,zni),(76,(zce zc)),(85,annotation_compareItems_spec),(129,(zbV zb)),(130,(zcH zd)),(131,(zcE ze)),(132,zfA)] [] [] [] [] []
def zbJ (zc:List Weighted→Bool×Bool) (zb:List (List Term)→Bool×Bool) (zd:List Term→Bool×Bool) (ze:Weighted→Bool×Bool) (x_:Atom):Wy0 (Bool):=.i (x_.Kind==0) (.i (x_.Func != 0) (.k false) (.i (Int.ofNat x_.Items.length != 0) (.k false) (.i (x_.Op != 0) (.k false) (.i (!(x_.Bound.Kind==0&&(x_.Bound.Int==0&&(x_.Bound.Text.toList==(ByteArray.mk #[]).toList&&true)))) (.k false) (.bn (zb x_.Args) fun r1=>.i (r1) (.k false) (.bn (zmC x_.Row) fun r0=>.i (r0) (.k (Int.ofNat x_.Args.length==0)) (.k false))))))) (.i (x_.Kind==1) (.i (x_.Func != 0) (.k false) (.i (Int.ofNat x_.Items.length != 0) (.k false) (.i (x_.Op != 0) (.k false) (.i (!(x_.Bound.Kind==0&&(x_.Bound.Int==0&&(x_.Bound.Text.toList==(ByteArray.mk #[]).toList&&true)))) (.k false) (.i (!(x_.Row.Table==0&&(x_.Row.Seq==0&&true))) (.k false) (.bn (zb x_.Args) fun r3=>.i (r3) (.k false) (.i (Int.ofNat x_.Args.length==2) (.i (decide ((0:Int)≤(0:Int))&&decide (0<Int.ofNat x_.Args.length)) (.i (decide ((0:Int)≤(1:Int))&&decide (1<Int.ofNat x_.Args.length)) (.bn (zca (x_.Args.getD (Int.toNat 0) default) (x_.Args.getD (Int.toNat 1) default)) fun r2=>.k (!r2)) .d) .d) (.k false)))))))) (.i (x_.Kind==2) (.i (x_.Func != 0) (.k false) (.i (Int.ofNat x_.Items.length != 0) (.k false) (.i (x_.Op != 0) (.k false) (.i (!(x_.Bound.Kind==0&&(x_.Bound.Int==0&&(x_.Bound.Text.toList==(ByteArray.mk #[]).toList&&true)))) (.k false) (.i (!(x_.Row.Table==0&&(x_.Row.Seq==0&&true))) (.k false) (.bn (zb x_.Args) fun r6=>.i (r6) (.k false) (.i (Int.ofNat x_.Args.length==1) (.i (decide ((0:Int)≤(0:Int))&&decide (0<Int.ofNat x_.Args.length)) (.bn (zgf (x_.Args.getD (Int.toNat 0) default)) fun r5=>.i (!r5) (.i (decide ((0:Int)≤(0:Int))&&decide (0<Int.ofNat x_.Args.length)) (.bn (zjn (x_.Args.getD (Int.toNat 0) default)) fun r4=>.k (!r4)) .d) (.k false)) .d) (.k false)))))))) (.i (x_.Kind==3) (.i (x_.Func != 0) (.k false) (.i (Int.ofNat x_.Items.length != 0) (.k false) (.i (x_.Op != 0) (.k false) (.i (!(x_.Bound.Kind==0&&(x_.Bound.Int==0&&(x_.Bound.Text.toList==(ByteArray.mk #[]).toList&&true)))) (.k false) (.i (!(x_.Row.Table==0&&(x_.Row.Seq==0&&true))) (.k false) (.bn (zb x_.Args) fun r8=>.i (r8) (.k false) (.i (Int.ofNat x_.Args.length==1) (.i (decide ((0:Int)≤(0:Int))&&decide (0<Int.ofNat x_.Args.length)) (.bn (zd0 (x_.Args.getD (Int.toNat 0) default)) fun r7=>.k (!r7)) .d) (.k false)))))))) (.i (x_.Kind==4) (.i (!(x_.Row.Table==0&&(x_.Row.Seq==0&&true))) (.k false) (.bn (zb x_.Args) fun r12=>.i (r12) (.k false) (.bn (zc x_.Items) fun r11=>.i (Int.ofNat x_.Args.length==0) (.i (decide (Int.ofNat x_.Items.length>0)) (.i (!r11) (.bn (zbQ x_.Items) fun r10=>.i (r10) (.bn (ziw x_.Func x_.Items x_.Op x_.Bound) fun r9=>.k r9) (.k false)) (.k false)) (.k false)) (.k false)))) (.i (x_.Func != 0) (.k false) (.i (Int.ofNat x_.Items.length != 0) (.k false) (.i (x_.Op != 0) (.k false) (.i (!(x_.Bound.Kind==0&&(x_.Bound.Int==0&&(x_.Bound.Text.toList==(ByteArray.mk #[]).toList&&true)))) (.k false) (.i (!(x_.Row.Table==0&&(x_.Row.Seq==0&&true))) (.k false) (.bn (zb x_.Args) fun r14=>.i (r14) (.k false) (.k false)))))))))))
def zh7 (zc:List Weighted→Bool×Bool) (zb:List (List Term)→Bool×Bool) (zd:List Term→Bool×Bool) (ze:Weighted→Bool×Bool) (x_:Atom):Bool×Bool:=(zbJ zc zb zd ze x_).fin default
theorem zxp (zc:List Weighted→Bool×Bool) (zb:List (List Term)→Bool×Bool) (zd:List Term→Bool×Bool) (ze:Weighted→Bool×Bool) (v_Row:RowID) (v_Args:List (List Term)) (v_Func:Int) (v_Items:List Weighted) (v_Op:Int) (v_Bound:Value)  :zh9 (zck zc zb zd ze) Tryz.f74 (body Tryz.f74) ⟨[.pure],[]⟩ [.pure (.agg (base.enc 48 (Atom.mk (Int.ofNat 0) v_Row v_Args v_Func v_Items v_Op v_Bound)))]=(zbJ zc zb zd ze (Atom.mk (Int.ofNat 0) v_Row v_Args v_Func v_Items v_Op v_Bound)).ev noH (fun r=>some (zb2 r)) none:=by kernel_rfl
theorem zxZ (zc:List Weighted→Bool×Bool) (zb:List (List Term)→Bool×Bool) (zd:List Term→Bool×Bool) (ze:Weighted→Bool×Bool) (v_Row:RowID) (v_Args:List (List Term)) (v_Func:Int) (v_Items:List Weighted) (v_Op:Int) (v_Bound:Value)  :zh9 (zck zc zb zd ze) Tryz.f74 (body Tryz.f74) ⟨[.pure],[]⟩ [.pure (.agg (base.enc 48 (Atom.mk (Int.ofNat 1) v_Row v_Args v_Func v_Items v_Op v_Bound)))]=(zbJ zc zb zd ze (Atom.mk (Int.ofNat 1) v_Row v_Args v_Func v_Items v_Op v_Bound)).ev noH (fun r=>some (zb2 r)) none:=by kernel_rfl
theorem zxQ (zc:List Weighted→Bool×Bool) (zb:List (List Term)→Bool×Bool) (zd:List Term→Bool×Bool) (ze:Weighted→Bool×Bool) (v_Row:RowID) (v_Args:List (List Term)) (v_Func:Int) (v_Items:List Weighted) (v_Op:Int) (v_Bound:Value)  :zh9 (zck zc zb zd ze) Tryz.f74 (body Tryz.f74) ⟨[.pure],[]⟩ [.pure (.agg (base.enc 48 (Atom.mk (Int.ofNat 2) v_Row v_Args v_Func v_Items v_Op v_Bound)))]=(zbJ zc zb zd ze (Atom.mk (Int.ofNat 2) v_Row v_Args v_Func v_Items v_Op v_Bound)).ev noH (fun r=>some (zb2 r)) none:=by kernel_rfl
theorem zxP (zc:List Weighted→Bool×Bool) (zb:List (List Term)→Bool×Bool) (zd:List Term→Bool×Bool) (ze:Weighted→Bool×Bool) (v_Row:RowID) (v_Args:List (List Term)) (v_Func:Int) (v_Items:List Weighted) (v_Op:Int) (v_Bound:Value)  :zh9 (zck zc zb zd ze) Tryz.f74 (body Tryz.f74) ⟨[.pure],[]⟩ [.pure (.agg (base.enc 48 (Atom.mk (Int.ofNat 3) v_Row v_Args v_Func v_Items v_Op v_Bound)))]=(zbJ zc zb zd ze (Atom.mk (Int.ofNat 3) v_Row v_Args v_Func v_Items v_Op v_Bound)).ev noH (fun r=>some (zb2 r)) none:=by kernel_rfl
theorem zx4 (zc:List Weighted→Bool×Bool) (zb:List (List Term)→Bool×Bool) (zd:List Term→Bool×Bool) (ze:Weighted→Bool×Bool) (v_Row:RowID) (v_Args:List (List Term)) (v_Func:Int) (v_Items:List Weighted) (v_Op:Int) (v_Bound:Value)  :zh9 (zck zc zb zd ze) Tryz.f74 (body Tryz.f74) ⟨[.pure],[]⟩ [.pure (.agg (base.enc 48 (Atom.mk (Int.ofNat 4) v_Row v_Args v_Func v_Items v_Op v_Bound)))]=(zbJ zc zb zd ze (Atom.mk (Int.ofNat 4) v_Row v_Args v_Func v_Items v_Op v_Bound)).ev noH (fun r=>some (zb2 r)) none:=by kernel_rfl
theorem zxn (zc:List Weighted→Bool×Bool) (zb:List (List Term)→Bool×Bool) (zd:List Term→Bool×Bool) (ze:Weighted→Bool×Bool) (n:Nat) (v_Row:RowID) (v_Args:List (List Term)) (v_Func:Int) (v_Items:List Weighted) (v_Op:Int) (v_Bound:Value)  :zh9 (zck zc zb zd ze) Tryz.f74 (body Tryz.f74) ⟨[.pure],[]⟩ [.pure (.agg (base.enc 48 (Atom.mk (Int.ofNat (n+5)) v_Row v_Args v_Func v_Items v_Op v_Bound)))]=(zbJ zc zb zd ze (Atom.mk (Int.ofNat (n+5)) v_Row v_Args v_Func v_Items v_Op v_Bound)).ev noH (fun r=>some (zb2 r)) none:=by kernel_rfl
theorem zxG (zc:List Weighted→Bool×Bool) (zb:List (List Term)→Bool×Bool) (zd:List Term→Bool×Bool) (ze:Weighted→Bool×Bool) (n:Nat) (v_Row:RowID) (v_Args:List (List Term)) (v_Func:Int) (v_Items:List Weighted) (v_Op:Int) (v_Bound:Value)  :zh9 (zck zc zb zd ze) Tryz.f74 (body Tryz.f74) ⟨[.pure],[]⟩ [.pure (.agg (base.enc 48 (Atom.mk (Int.negSucc n) v_Row v_Args v_Func v_Items v_Op v_Bound)))]=(zbJ zc zb zd ze (Atom.mk (Int.negSucc n) v_Row v_Args v_Func v_Items v_Op v_Bound)).ev noH (fun r=>some (zb2 r)) none:=by kernel_rfl
theorem zyE (zc:List Weighted→Bool×Bool) (zb:List (List Term)→Bool×Bool) (zd:List Term→Bool×Bool) (ze:Weighted→Bool×Bool) (x_:Atom):zh9 (zck zc zb zd ze) Tryz.f74 (body Tryz.f74) ⟨[.pure],[]⟩ [.pure (.agg (base.enc 48 x_))]=(zbJ zc zb zd ze x_).ev noH (fun r=>some (zb2 r)) none:=by
 obtain ⟨v_Kind,v_Row,v_Args,v_Func,v_Items,v_Op,v_Bound⟩:=x_
 match v_Kind with
 | .ofNat 0=>exact zxp zc zb zd ze v_Row v_Args v_Func v_Items v_Op v_Bound 
 | .ofNat 1=>exact zxZ zc zb zd ze v_Row v_Args v_Func v_Items v_Op v_Bound 
 | .ofNat 2=>exact zxQ zc zb zd ze v_Row v_Args v_Func v_Items v_Op v_Bound 
 | .ofNat 3=>exact zxP zc zb zd ze v_Row v_Args v_Func v_Items v_Op v_Bound 
 | .ofNat 4=>exact zx4 zc zb zd ze v_Row v_Args v_Func v_Items v_Op v_Bound 
 | .ofNat (n+5)=>exact zxn zc zb zd ze n v_Row v_Args v_Func v_Items v_Op v_Bound 
 | .negSucc n=>exact zxG zc zb zd ze n v_Row v_Args v_Func v_Items v_Op v_Bound 
theorem zwv (zc:List Weighted→Bool×Bool) (zb:List (List Term)→Bool×Bool) (zd:List Term→Bool×Bool) (ze:Weighted→Bool×Bool) (zkP:Sound Tryz.prog base 76 (zce zc)) (zjV:Sound Tryz.prog base 129 (zbV zb)) (zeP:Sound Tryz.prog base 130 (zcH zd)) (zeJ:Sound Tryz.prog base 131 (zcE ze)):Sound Tryz.prog base 74 (zkn (zh7 zc zb zd ze)):=
 zD (cx':=(zck zc zb zd ze)) zQ zB zL (zF ⟨znZ,zsp,zpi,zow,zrA,zq5,zkP,zgn,zjV,zeP,zeJ,zla,trivial⟩) Tryz.call74 Tryz.func74 (c:=body Tryz.f74) (by kernel_rfl) (zj (l:=[]) (by kernel_rfl) trivial) (sg:=⟨[.pure],[]⟩) (A:=zsX) (res:=zb2) (W:=fun x=>zbJ zc zb zd ze x.1) (z:=default) (fun x=>zyE zc zb zd ze x.1) (fun _=>by kernel_rfl)
def zwZ (zbc:List Term→Bool×Bool):Cx ty:=mkCx base 11 [(31,(zgG zbc))] [] [] [] [] []
def zks (zbc:List Term→Bool×Bool) (a:List Term):Wy0 (Bool):=.bn (zbc a) fun r0=>.i (!r0) (.k true) (.k (Int.ofNat a.length==0))
def ziK (zbc:List Term→Bool×Bool) (a:List Term):Bool×Bool:=(zks zbc a).fin default
theorem zuH (zbc:List Term→Bool×Bool) (zps:Sound Tryz.prog base 31 (zgG zbc)):Sound Tryz.prog base 130 (zcH (ziK zbc)):=
 zD (cx':=(zwZ zbc)) zQ zB zL (zF ⟨zps,trivial⟩) Tryz.call130 Tryz.func130 (c:=body Tryz.f130) (by kernel_rfl) (zj (l:=[]) (by kernel_rfl) trivial) (sg:=⟨[.pure],[]⟩) (A:=zqN) (res:=zpd) (W:=fun x=>zks zbc x.1) (z:=default)
def zwS (zbc:List Term→Bool×Bool):Cx ty:=mkCx base 13 [(31,(zgG zbc))] [] [] [] [] []
def zkr (zbc:List Term→Bool×Bool) (w:Weighted):Wy0 (Bool):=.bn (zbc w.Ann) fun r0=>.i (!r0) (.k true) (.k (Int.ofNat w.Ann.length==0))
def ziJ (zbc:List Term→Bool×Bool) (w:Weighted):Bool×Bool:=(zkr zbc w).fin default
theorem zuF (zbc:List Term→Bool×Bool) (zps:Sound Tryz.prog base 31 (zgG zbc)):Sound Tryz.prog base 131 (zcE (ziJ zbc)):=
 zD (cx':=(zwS zbc)) zQ zB zL (zF ⟨zps,trivial⟩) Tryz.call131 Tryz.func131 (c:=body Tryz.f131) (by kernel_rfl) (zj (l:=[]) (by kernel_rfl) trivial) (sg:=⟨[.pure],[]⟩) (A:=zqt) (res:=zpe) (W:=fun x=>zkr zbc x.1) (z:=default)
def zjA (zd:List Term→Bool×Bool) (zK:List (List Term)→Bool×Int):Cx ty:=mkCx base 9 [(130,(zcH zd)),(163,(zb7 zK))] [] [] [] [] []
def zcA (zd:List Term→Bool×Bool) (zK:List (List Term)→Bool×Int) (s:List (List Term)):Wy0 (Bool):=.bn (zK s) fun r0=>.k (decide (r0≥0))
def zbS (zd:List Term→Bool×Bool) (zK:List (List Term)→Bool×Int) (s:List (List Term)):Bool×Bool:=(zcA zd zK s).fin default
theorem ziU (zd:List Term→Bool×Bool) (zK:List (List Term)→Bool×Int) (zeP:Sound Tryz.prog base 130 (zcH zd)) (zkz:Sound Tryz.prog base 163 (zb7 zK)):Sound Tryz.prog base 129 (zbV (zbS zd zK)):=
 zD (cx':=(zjA zd zK)) zQ zB zL (zF ⟨zeP,zkz,trivial⟩) Tryz.call129 Tryz.func129 (c:=body Tryz.f129) (by kernel_rfl) (zj (l:=[]) (by kernel_rfl) trivial) (sg:=⟨[.pure],[]⟩) (A:=zey) (res:=zec) (W:=fun x=>zcA zd zK x.1) (z:=default)
def zkL (ze:Weighted→Bool×Bool) (zO:List Weighted→Bool×Int):Cx ty:=mkCx base 9 [(131,(zcE ze)),(135,(zcq zO))] [] [] [] [] []
def zc0 (ze:Weighted→Bool×Bool) (zO:List Weighted→Bool×Int) (s:List Weighted):Wy0 (Bool):=.bn (zO s) fun r0=>.k (decide (r0≥0))
def zcg (ze:Weighted→Bool×Bool) (zO:List Weighted→Bool×Int) (s:List Weighted):Bool×Bool:=(zc0 ze zO s).fin default
theorem zjP (ze:Weighted→Bool×Bool) (zO:List Weighted→Bool×Int) (zeJ:Sound Tryz.prog base 131 (zcE ze)) (zlM:Sound Tryz.prog base 135 (zcq zO)):Sound Tryz.prog base 76 (zce (zcg ze zO)):=
 zD (cx':=(zkL ze zO)) zQ zB zL (zF ⟨zeJ,zlM,trivial⟩) Tryz.call76 Tryz.func76 (c:=body Tryz.f76) (by kernel_rfl) (zj (l:=[]) (by kernel_rfl) trivial) (sg:=⟨[.pure],[]⟩) (A:=zft) (res:=ze2) (W:=fun x=>zc0 ze zO x.1) (z:=default)
abbrev ttTslicesIndexFuncLapiAnnotationapiAnnotationv10:=List (List Term)×Unit×Int×Int×Unit
def zkq (zd:List Term→Bool×Bool) (s:List (List Term)) (t7:Int) (t8:Int):Wy ttTslicesIndexFuncLapiAnnotationapiAnnotationv10 (Unit) (Int⊕Unit):=.i (decide (t8<t7)) (.i (decide (0≤t8)&&decide (t8<Int.ofNat s.length)) (.bn (zd (s.getD t8.toNat default)) fun r0=>.i (r0) (.k (.inl t8)) (.h (s,(),t7,(IntKind.i64.wrap (t8+1)),()) ())) .d) (.k (.inr ()))
def zcN (zd:List Term→Bool×Bool) (x:ttTslicesIndexFuncLapiAnnotationapiAnnotationv10) (y:Unit):Wy ttTslicesIndexFuncLapiAnnotationapiAnnotationv10 (Unit) (Int⊕Unit):=zkq zd x.1 x.2.2.1 x.2.2.2.1
def zko (zd:List Term→Bool×Bool) (n:Nat) (s:List (List Term)) (t7:Int) (t8:Int):Bool×(Int⊕Unit):=zN (zcN zd) (.inl default) n (s,(),t7,t8,()) ()
def zep (r:Int⊕Unit):LTree ty:=.ite (isL r) (.done .ret [.lit (.int .i64 (getL r))] []) (.done (.exit 0) [] [])
def zez:LL ty ttTslicesIndexFuncLapiAnnotationapiAnnotationv10:=za (lSl 23) (za (lFn 130 (zS)) (za (lInt .i64) (za (lInt .i64) zS)))
def zeB:BL ty (Unit):=bNil
def zeo (x:ttTslicesIndexFuncLapiAnnotationapiAnnotationv10) (y:Unit):Nat:=(x.1.length+Int.toNat x.2.2.1+Int.toNat x.2.2.2.1+1)
def zeA (zd:List Term→Bool×Bool):Cx ty:=mkCx base 19 [(130,(zcH zd))] [] [(2,[(0,.keep),(1,.keep),(7,.keep),(8,.keep)])] [(2,1,[]),(2,0,[(4,.keep)])] [(2,spW zez zeB (zcN zd) (.inl default) zep zeo)] []
theorem zj3 (zd:List Term→Bool×Bool):zbp (zeA zd) (lp (body Tryz.f163) 0):=zY (id:=2) (V:=zez) (B:=zeB) (W:=zcN zd) (z:=.inl default) (tr:=zep) (m:=zeo)
def zeN (zd:List Term→Bool×Bool) (s:List (List Term)):Wy0 (Int):=.bn (zko zd (s.length+(Int.ofNat s.length).toNat +Int.toNat 0+1) s (Int.ofNat s.length) 0) fun r2=>.i (isL r2) (.k (getL r2)) (.k (-1:Int))
def zb5 (zd:List Term→Bool×Bool) (s:List (List Term)):Bool×Int:=(zeN zd s).fin default
theorem zjB (zd:List Term→Bool×Bool) (zeP:Sound Tryz.prog base 130 (zcH zd)):Sound Tryz.prog base 163 (zb7 (zb5 zd)):=
 zD (cx':=(zeA zd)) zQ zB zL (zF ⟨zeP,trivial⟩) Tryz.call163 Tryz.func163 (c:=body Tryz.f163) (by kernel_rfl) (zj (l:=[lp (body Tryz.f163) 0]) (by kernel_rfl) ⟨zj3 zd,trivial⟩) (sg:=⟨[.pure],[]⟩) (A:=ze7) (res:=zeK) (W:=fun x=>zeN zd x.1) (z:=default)
abbrev ttTslicesIndexFuncLapiWeightedapiWeightedv20:=List Weighted×Unit×Int×Int×Unit
def zlA (ze:Weighted→Bool×Bool) (s:List Weighted) (t7:Int) (t8:Int):Wy ttTslicesIndexFuncLapiWeightedapiWeightedv20 (Unit) (Int⊕Unit):=.i (decide (t8<t7)) (.i (decide (0≤t8)&&decide (t8<Int.ofNat s.length)) (.bn (ze (s.getD t8.toNat default)) fun r0=>.i (r0) (.k (.inl t8)) (.h (s,(),t7,(IntKind.i64.wrap (t8+1)),()) ())) .d) (.k (.inr ()))
def zdh (ze:Weighted→Bool×Bool) (x:ttTslicesIndexFuncLapiWeightedapiWeightedv20) (y:Unit):Wy ttTslicesIndexFuncLapiWeightedapiWeightedv20 (Unit) (Int⊕Unit):=zlA ze x.1 x.2.2.1 x.2.2.2.1
def zlH (ze:Weighted→Bool×Bool) (n:Nat) (s:List Weighted) (t7:Int) (t8:Int):Bool×(Int⊕Unit):=zN (zdh ze) (.inl default) n (s,(),t7,t8,()) ()
def zfe (r:Int⊕Unit):LTree ty:=.ite (isL r) (.done .ret [.lit (.int .i64 (getL r))] []) (.done (.exit 0) [] [])
def zfx:LL ty ttTslicesIndexFuncLapiWeightedapiWeightedv20:=za (lSl 52) (za (lFn 131 (zS)) (za (lInt .i64) (za (lInt .i64) zS)))
def zfB:BL ty (Unit):=bNil
def ze8 (x:ttTslicesIndexFuncLapiWeightedapiWeightedv20) (y:Unit):Nat:=(x.1.length+Int.toNat x.2.2.1+Int.toNat x.2.2.2.1+1)
def zfr (ze:Weighted→Bool×Bool):Cx ty:=mkCx base 19 [(131,(zcE ze))] [] [(2,[(0,.keep),(1,.keep),(7,.keep),(8,.keep)])] [(2,1,[]),(2,0,[(4,.keep)])] [(2,spW zfx zfB (zdh ze) (.inl default) zfe ze8)] []
theorem zlk (ze:Weighted→Bool×Bool):zbp (zfr ze) (lp (body Tryz.f135) 0):=zY (id:=2) (V:=zfx) (B:=zfB) (W:=zdh ze) (z:=.inl default) (tr:=zfe) (m:=ze8)
def zfX (ze:Weighted→Bool×Bool) (s:List Weighted):Wy0 (Int):=.bn (zlH ze (s.length+(Int.ofNat s.length).toNat +Int.toNat 0+1) s (Int.ofNat s.length) 0) fun r2=>.i (isL r2) (.k (getL r2)) (.k (-1:Int))
def zcp (ze:Weighted→Bool×Bool) (s:List Weighted):Bool×Int:=(zfX ze s).fin default
theorem zku (ze:Weighted→Bool×Bool) (zeJ:Sound Tryz.prog base 131 (zcE ze)):Sound Tryz.prog base 135 (zcq (zcp ze)):=
 zD (cx':=(zfr ze)) zQ zB zL (zF ⟨zeJ,trivial⟩) Tryz.call135 Tryz.func135 (c:=body Tryz.f135) (by kernel_rfl) (zj (l:=[lp (body Tryz.f135) 0]) (by kernel_rfl) ⟨zlk ze,trivial⟩) (sg:=⟨[.pure],[]⟩) (A:=zgA) (res:=zfM) (W:=fun x=>zfX ze x.1) (z:=default)
end Go.Proofs.YtnolcogncjijpaaGreatDoor
end
