/- Texts of this claim, joined (the program, its functions in plain words, and what they compute). -/
import Derived.Test.YtnolcogncjijpaaGreatDoorGC1
import Derived.Test.YtnolcogncjijpaaGreatDoorGA2
set_option autoImplicit false
set_option linter.unusedVariables false
set_option linter.unusedSectionVars false
set_option linter.unusedSimpArgs false
set_option maxRecDepth 1000000
set_option maxHeartbeats 0
noncomputable section
namespace Go.Proofs.YtnolcogncjijpaaGreatDoor
open Go Go.Ab
abbrev ttTannotationSize0:=Int×Unit×List Term×Int×Int×List Factor×Int×Int×List (List Term)×Int×Int×Unit
abbrev ttTannotationSize1:=Int×List Term×Int×Int×List Factor×Int×Int×Factor
abbrev ttTannotationSize2:=Int×List Term×Int×Int×List Factor×Int×Int×List Weighted×Int×Int×Unit
abbrev ttTannotationSize3:=Int×List Term×Int×Int×List Factor×Int×Int
abbrev ttTannotationSize4:=Int×List Term×Int×Int×List Factor×Int×Int×Unit
abbrev ttTannotationSize5:=Int×List Term×Int×Int
abbrev ttTannotationSize6:=Int×List Term×Int×Int×Unit
def ziJ (zo:List Term→Bool×Int) (n_:Int) (t12:List Term) (t13:Int) (t14:Int) (t25:List Factor) (t26:Int) (t27:Int) (t33:List (List Term)) (t34:Int) (t35:Int) (f:Factor):Wy ttTannotationSize0 (Factor×Unit) ttTannotationSize1:=.i (decide (t35<t34)) (.i (decide (0≤t35)&&decide (t35<Int.ofNat t33.length)) (.bn (zo (t33.getD t35.toNat default)) fun r0=>.h ((IntKind.i64.wrap (n_+r0)),(),t12,t13,t14,t25,t26,t27,t33,t34,(IntKind.i64.wrap (t35+1)),()) (f,())) .d) (.k (n_,t12,t13,t14,t25,t26,t27,f))
def zlv (zo:List Term→Bool×Int) (x:ttTannotationSize0) (y:Factor×Unit):Wy ttTannotationSize0 (Factor×Unit) ttTannotationSize1:=ziJ zo x.1 x.2.2.1 x.2.2.2.1 x.2.2.2.2.1 x.2.2.2.2.2.1 x.2.2.2.2.2.2.1 x.2.2.2.2.2.2.2.1 x.2.2.2.2.2.2.2.2.1 x.2.2.2.2.2.2.2.2.2.1 x.2.2.2.2.2.2.2.2.2.2.1 y.1
def zwd (zo:List Term→Bool×Int) (n:Nat) (n_:Int) (t12:List Term) (t13:Int) (t14:Int) (t25:List Factor) (t26:Int) (t27:Int) (t33:List (List Term)) (t34:Int) (t35:Int) (f:Factor):Bool×ttTannotationSize1:=zX (zlv zo) default n (n_,(),t12,t13,t14,t25,t26,t27,t33,t34,t35,()) (f,())
def zvm (r:ttTannotationSize1):LTree ty:=.done (.exit 4) [.lit (.int .i64 r.1),.ptr 248 0,.sl 42 r.2.1,.lit (.int .i64 r.2.2.1),.lit (.int .i64 r.2.2.2.1),.sl 50 r.2.2.2.2.1,.lit (.int .i64 r.2.2.2.2.2.1),.lit (.int .i64 r.2.2.2.2.2.2.1)] [.box (base.enc 50 r.2.2.2.2.2.2.2) false]
def zwb:LL ty ttTannotationSize0:=za (lInt .i64) (za (ze9 248 0) (za (lSl 42) (za (lInt .i64) (za (lInt .i64) (za (lSl 50) (za (lInt .i64) (za (lInt .i64) (za (lSl 23) (za (lInt .i64) (za (lInt .i64) zH))))))))))
def zwg:BL ty (Factor×Unit):=bBox (zgz (fun x=>(⟨⟨x.1,⟨x.2.1,x.2.2.1⟩,x.2.2.2.1,x.2.2.2.2.1,x.2.2.2.2.2.1,x.2.2.2.2.2.2.1,⟨x.2.2.2.2.2.2.2.1,x.2.2.2.2.2.2.2.2.1,x.2.2.2.2.2.2.2.2.2.1⟩⟩,x.2.2.2.2.2.2.2.2.2.2.1⟩:Factor)) (fun x=>(x.Atom.Kind,x.Atom.Row.Table,x.Atom.Row.Seq,x.Atom.Args,x.Atom.Func,x.Atom.Items,x.Atom.Op,x.Atom.Bound.Kind,x.Atom.Bound.Int,x.Atom.Bound.Text,x.Exp,())) (fun _=>rfl) (za (lInt .i64) (za (lInt .i64) (za (lInt .i64) (za (lSl 23) (za (lInt .i64) (za (lSl 52) (za (lInt .i64) (za (lInt .i64) (za (lInt .i64) (za lStr (za (lInt .i64) zH)))))))))))) false (bNil)
def ziL (zo:List Term→Bool×Int) (n_:Int) (t12:List Term) (t13:Int) (t14:Int) (t25:List Factor) (t26:Int) (t27:Int) (t46:List Weighted) (t47:Int) (t48:Int):Wy ttTannotationSize2 (Unit) ttTannotationSize3:=.i (decide (t48<t47)) (.i (decide (0≤t48)&&decide (t48<Int.ofNat t46.length)) (.bn (zo (t46.getD t48.toNat default).Ann) fun r2=>.h ((IntKind.i64.wrap (n_+IntKind.i64.wrap (1+r2))),t12,t13,t14,t25,t26,t27,t46,t47,(IntKind.i64.wrap (t48+1)),()) ()) .d) (.k (n_,t12,t13,t14,t25,t26,t27))
def zlw (zo:List Term→Bool×Int) (x:ttTannotationSize2) (y:Unit):Wy ttTannotationSize2 (Unit) ttTannotationSize3:=ziL zo x.1 x.2.1 x.2.2.1 x.2.2.2.1 x.2.2.2.2.1 x.2.2.2.2.2.1 x.2.2.2.2.2.2.1 x.2.2.2.2.2.2.2.1 x.2.2.2.2.2.2.2.2.1 x.2.2.2.2.2.2.2.2.2.1
def zvZ (zo:List Term→Bool×Int) (n:Nat) (n_:Int) (t12:List Term) (t13:Int) (t14:Int) (t25:List Factor) (t26:Int) (t27:Int) (t46:List Weighted) (t47:Int) (t48:Int):Bool×ttTannotationSize3:=zX (zlw zo) default n (n_,t12,t13,t14,t25,t26,t27,t46,t47,t48,()) ()
def zvs (r:ttTannotationSize3):LTree ty:=.done (.exit 6) [.lit (.int .i64 r.1),.sl 42 r.2.1,.lit (.int .i64 r.2.2.1),.lit (.int .i64 r.2.2.2.1),.sl 50 r.2.2.2.2.1,.lit (.int .i64 r.2.2.2.2.2.1),.lit (.int .i64 r.2.2.2.2.2.2)] []
def zv9:LL ty ttTannotationSize2:=za (lInt .i64) (za (lSl 42) (za (lInt .i64) (za (lInt .i64) (za (lSl 50) (za (lInt .i64) (za (lInt .i64) (za (lSl 52) (za (lInt .i64) (za (lInt .i64) zH)))))))))
def zwn:BL ty (Unit):=bNil
def zjs (zo:List Term→Bool×Int) (n_:Int) (t12:List Term) (t13:Int) (t14:Int) (t25:List Factor) (t26:Int) (t27:Int):Wy ttTannotationSize4 (Unit) ttTannotationSize5:=.i (decide (t27<t26)) (.i (decide (0≤t27)&&decide (t27<Int.ofNat t25.length)) (.bn (zwd zo ((n_.toNat +t12.length+t13.toNat +t14.toNat +t25.length+t26.toNat +t27.toNat +(t25.getD t27.toNat default).Atom.Args.length+(Int.ofNat (t25.getD t27.toNat default).Atom.Args.length).toNat +Int.toNat 0+1)+(FactorOf.mk (Atom.mk (t25.getD t27.toNat default).Atom.Kind (t25.getD t27.toNat default).Atom.Row (t25.getD t27.toNat default).Atom.Args (t25.getD t27.toNat default).Atom.Func (t25.getD t27.toNat default).Atom.Items (t25.getD t27.toNat default).Atom.Op (t25.getD t27.toNat default).Atom.Bound) (t25.getD t27.toNat default).Exp).Atom.Args.length+(FactorOf.mk (Atom.mk (t25.getD t27.toNat default).Atom.Kind (t25.getD t27.toNat default).Atom.Row (t25.getD t27.toNat default).Atom.Args (t25.getD t27.toNat default).Atom.Func (t25.getD t27.toNat default).Atom.Items (t25.getD t27.toNat default).Atom.Op (t25.getD t27.toNat default).Atom.Bound) (t25.getD t27.toNat default).Exp).Atom.Items.length) n_ t12 t13 t14 t25 t26 t27 (t25.getD t27.toNat default).Atom.Args (Int.ofNat (t25.getD t27.toNat default).Atom.Args.length) 0 (FactorOf.mk (Atom.mk (t25.getD t27.toNat default).Atom.Kind (t25.getD t27.toNat default).Atom.Row (t25.getD t27.toNat default).Atom.Args (t25.getD t27.toNat default).Atom.Func (t25.getD t27.toNat default).Atom.Items (t25.getD t27.toNat default).Atom.Op (t25.getD t27.toNat default).Atom.Bound) (t25.getD t27.toNat default).Exp)) fun r5=>.bn (zvZ zo (r5.1.toNat +r5.2.1.length+r5.2.2.1.toNat +r5.2.2.2.1.toNat +r5.2.2.2.2.1.length+r5.2.2.2.2.2.1.toNat +r5.2.2.2.2.2.2.1.toNat +r5.2.2.2.2.2.2.2.Atom.Items.length+(Int.ofNat r5.2.2.2.2.2.2.2.Atom.Items.length).toNat +Int.toNat 0+1) r5.1 r5.2.1 r5.2.2.1 r5.2.2.2.1 r5.2.2.2.2.1 r5.2.2.2.2.2.1 r5.2.2.2.2.2.2.1 r5.2.2.2.2.2.2.2.Atom.Items (Int.ofNat r5.2.2.2.2.2.2.2.Atom.Items.length) 0) fun r4=>.h ((r4.1),(r4.2.1),(r4.2.2.1),(r4.2.2.2.1),(r4.2.2.2.2.1),(r4.2.2.2.2.2.1),(IntKind.i64.wrap (r4.2.2.2.2.2.2+1)),()) ()) .d) (.k (n_,t12,t13,t14))
def zmn (zo:List Term→Bool×Int) (x:ttTannotationSize4) (y:Unit):Wy ttTannotationSize4 (Unit) ttTannotationSize5:=zjs zo x.1 x.2.1 x.2.2.1 x.2.2.2.1 x.2.2.2.2.1 x.2.2.2.2.2.1 x.2.2.2.2.2.2.1
def zxx (zo:List Term→Bool×Int) (n:Nat) (n_:Int) (t12:List Term) (t13:Int) (t14:Int) (t25:List Factor) (t26:Int) (t27:Int):Bool×ttTannotationSize5:=zX (zmn zo) default n (n_,t12,t13,t14,t25,t26,t27,()) ()
def zwy (r:ttTannotationSize5):LTree ty:=.done (.exit 2) [.lit (.int .i64 r.1),.sl 42 r.2.1,.lit (.int .i64 r.2.2.1),.lit (.int .i64 r.2.2.2)] []
def zxk:LL ty ttTannotationSize4:=za (lInt .i64) (za (lSl 42) (za (lInt .i64) (za (lInt .i64) (za (lSl 50) (za (lInt .i64) (za (lInt .i64) zH))))))
def zw5:BL ty (Unit):=bNil
def zjp (zo:List Term→Bool×Int) (n_:Int) (t12:List Term) (t13:Int) (t14:Int):Wy ttTannotationSize6 (Unit) (Int):=.i (decide (t14<t13)) (.i (decide (0≤t14)&&decide (t14<Int.ofNat t12.length)) (.bn (zxx zo ((IntKind.i64.wrap (n_+IntKind.i64.wrap (1+Int.ofNat (t12.getD t14.toNat default).Factors.length))).toNat +t12.length+t13.toNat +t14.toNat +(t12.getD t14.toNat default).Factors.length+(Int.ofNat (t12.getD t14.toNat default).Factors.length).toNat +Int.toNat 0+1) (IntKind.i64.wrap (n_+IntKind.i64.wrap (1+Int.ofNat (t12.getD t14.toNat default).Factors.length))) t12 t13 t14 (t12.getD t14.toNat default).Factors (Int.ofNat (t12.getD t14.toNat default).Factors.length) 0) fun r8=>.h ((r8.1),(r8.2.1),(r8.2.2.1),(IntKind.i64.wrap (r8.2.2.2+1)),()) ()) .d) (.k n_)
def zmg (zo:List Term→Bool×Int) (x:ttTannotationSize6) (y:Unit):Wy ttTannotationSize6 (Unit) (Int):=zjp zo x.1 x.2.1 x.2.2.1 x.2.2.2.1
def zyg (zo:List Term→Bool×Int) (n:Nat) (n_:Int) (t12:List Term) (t13:Int) (t14:Int):Bool×Int:=zX (zmg zo) default n (n_,t12,t13,t14,()) ()
def zvY (r:Int):LTree ty:=.done (.exit 0) [.lit (.int .i64 r)] []
def zxB:LL ty ttTannotationSize6:=za (lInt .i64) (za (lSl 42) (za (lInt .i64) (za (lInt .i64) zH)))
def zx9:BL ty (Unit):=bNil
def zvf (x:ttTannotationSize0) (y:Factor×Unit):Nat:=((Int.toNat x.1+x.2.2.1.length+Int.toNat x.2.2.2.1+Int.toNat x.2.2.2.2.1+x.2.2.2.2.2.1.length+Int.toNat x.2.2.2.2.2.2.1+Int.toNat x.2.2.2.2.2.2.2.1+x.2.2.2.2.2.2.2.2.1.length+Int.toNat x.2.2.2.2.2.2.2.2.2.1+Int.toNat x.2.2.2.2.2.2.2.2.2.2.1+1)+y.1.Atom.Args.length+y.1.Atom.Items.length)
def zvu (x:ttTannotationSize2) (y:Unit):Nat:=(Int.toNat x.1+x.2.1.length+Int.toNat x.2.2.1+Int.toNat x.2.2.2.1+x.2.2.2.2.1.length+Int.toNat x.2.2.2.2.2.1+Int.toNat x.2.2.2.2.2.2.1+x.2.2.2.2.2.2.2.1.length+Int.toNat x.2.2.2.2.2.2.2.2.1+Int.toNat x.2.2.2.2.2.2.2.2.2.1+1)
def zws (x:ttTannotationSize4) (y:Unit):Nat:=(Int.toNat x.1+x.2.1.length+Int.toNat x.2.2.1+Int.toNat x.2.2.2.1+x.2.2.2.2.1.length+Int.toNat x.2.2.2.2.2.1+Int.toNat x.2.2.2.2.2.2.1+1)
def zwD (x:ttTannotationSize6) (y:Unit):Nat:=(Int.toNat x.1+x.2.1.length+Int.toNat x.2.2.1+Int.toNat x.2.2.2.1+1)
def zjd (zo:List Term→Bool×Int):Cx ty:=mkCx base 62 [(47,(zl5 zo))] [] [(3,[(3,.keep),(12,.keep),(13,.keep),(14,.keep)]),(7,[(3,.keep),(12,.keep),(13,.keep),(14,.keep),(25,.keep),(26,.keep),(27,.keep)]),(10,[(3,.keep),(7,.keep),(12,.keep),(13,.keep),(14,.keep),(25,.keep),(26,.keep),(27,.keep),(33,.keep),(34,.keep),(35,.keep)]),(15,[(3,.keep),(12,.keep),(13,.keep),(14,.keep),(25,.keep),(26,.keep),(27,.keep),(46,.keep),(47,.keep),(48,.keep)])] [(3,1,[(3,.keep)]),(7,3,[(3,.keep),(12,.keep),(13,.keep),(14,.keep)]),(10,5,[(3,.keep),(7,.keep),(12,.keep),(13,.keep),(14,.keep),(25,.keep),(26,.keep),(27,.keep)]),(15,7,[(3,.keep),(12,.keep),(13,.keep),(14,.keep),(25,.keep),(26,.keep),(27,.keep)])] [(10,spW zwb zwg (zlv zo) default zvm zvf),(15,spW zv9 zwn (zlw zo) default zvs zvu),(7,spW zxk zw5 (zmn zo) default zwy zws),(3,spW zxB zx9 (zmg zo) default zvY zwD)] []
theorem zHa (zo:List Term→Bool×Int):zW (zjd zo) (lp (body Tryz.f47) 2):=zK (id:=10) (V:=zwb) (B:=zwg) (W:=zlv zo) (z:=default) (tr:=zvm) (m:=zvf)
theorem zGX (zo:List Term→Bool×Int):zW (zjd zo) (lp (body Tryz.f47) 3):=zK (id:=15) (V:=zv9) (B:=zwn) (W:=zlw zo) (z:=default) (tr:=zvs) (m:=zvu)
theorem zHv (zo:List Term→Bool×Int):zW (zjd zo) (lp (body Tryz.f47) 1):=zK (id:=7) (V:=zxk) (B:=zw5) (W:=zmn zo) (z:=default) (tr:=zwy) (m:=zws)
theorem zHC (zo:List Term→Bool×Int):zW (zjd zo) (lp (body Tryz.f47) 0):=zK (id:=3) (V:=zxB) (B:=zx9) (W:=zmg zo) (z:=default) (tr:=zvY) (m:=zwD)
def zru (zo:List Term→Bool×Int) (a:List Term):Wy0 (Int):=.bn (zyg zo (Int.toNat 0+a.length+(Int.ofNat a.length).toNat +Int.toNat 0+1) 0 a (Int.ofNat a.length) 0) fun r10=>.k r10
def zoZ (zo:List Term→Bool×Int) (a:List Term):Bool×Int:=(zru zo a).fin default
theorem zFs (zo:List Term→Bool×Int) (zKT:Sound Tryz.prog base 47 (zl5 zo)):Sound Tryz.prog base 47 (zl5 (zoZ zo)):=
 zn (cx':=(zjd zo)) zJ zl zw (zm ⟨zKT,trivial⟩) Tryz.call47 Tryz.func47 (c:=body Tryz.f47) (by kernel_rfl) (zh (l:=[lp (body Tryz.f47) 0,lp (body Tryz.f47) 1,lp (body Tryz.f47) 2,lp (body Tryz.f47) 3]) (by kernel_rfl) ⟨zHC zo,zHv zo,zHa zo,zGX zo,trivial⟩) (sg:=⟨[.pure],[]⟩) (A:=zCs) (res:=zyK) (W:=fun x=>zru zo x.1) (z:=default)
def zS6:Nat→(List Term→Bool×Int)
 | 0=>fun _=>(false,default)
 | n+1=>zoZ (zS6 n)
def zjO (n:Nat):List Term→Bool×Int:=zS6 n
theorem zJo (n:Nat):zjO (n+1)=zoZ (zjO n):=rfl
theorem zPq:∀ n,Sound Tryz.prog base 47 (zl5 (zjO n))
 | 0=>zbj Tryz.call47 (fun _=>rfl)
 | n+1=>by
  have ih:=zPq n
  exact zFs _ (ih)
def zyc:List Term→Bool×Int:=zjO 1000
def annotation_Size_spec:Ab.Spec ty:=zl5 zyc
theorem zIt:Sound Tryz.prog base 47 annotation_Size_spec:=(zPq 1000)
def zu8 (r:Int):ARes ty:=⟨[.pure (.lit (.int .i64 r))],[]⟩
def zwW:AL base (List Term×Unit):=zf (zg (vSl 42)) aNil
def zjl (F:List Term→Bool×Int):Ab.Spec ty:=zk zwW fun x=>((F x.1).1,zu8 (F x.1).2)
abbrev ttTannotationnesting0:=Int×Unit×Int×List Term×Int×Int×List Factor×Int×Int×List (List Term)×Int×Int×Unit
abbrev ttTannotationnesting1:=Int×Int×List Term×Int×Int×List Factor×Int×Int×Factor
abbrev ttTannotationnesting2:=Int×Int×List Term×Int×Int×List Factor×Int×Int×List Weighted×Int×Int×Unit
abbrev ttTannotationnesting3:=Int×Int×List Term×Int×Int×List Factor×Int×Int
abbrev ttTannotationnesting4:=Int×List Term×Int×Int×List Factor×Int×Int×Unit
abbrev ttTannotationnesting5:=Int×List Term×Int×Int
abbrev ttTannotationnesting6:=Int×List Term×Int×Int×Unit
def zgV (zi:List Term→Bool×Int) (n_:Int) (inner:Int) (t13:List Term) (t14:Int) (t15:Int) (t20:List Factor) (t21:Int) (t22:Int) (t32:List (List Term)) (t33:Int) (t34:Int) (f:Factor):Wy ttTannotationnesting0 (Factor×Unit) ttTannotationnesting1:=.i (decide (t34<t33)) (.i (decide (0≤t34)&&decide (t34<Int.ofNat t32.length)) (.bn (zi (t32.getD t34.toNat default)) fun r0=>.h (n_,(),(if r0>inner then r0 else inner),t13,t14,t15,t20,t21,t22,t32,t33,(IntKind.i64.wrap (t34+1)),()) (f,())) .d) (.k (n_,inner,t13,t14,t15,t20,t21,t22,f))
def zjr (zi:List Term→Bool×Int) (x:ttTannotationnesting0) (y:Factor×Unit):Wy ttTannotationnesting0 (Factor×Unit) ttTannotationnesting1:=zgV zi x.1 x.2.2.1 x.2.2.2.1 x.2.2.2.2.1 x.2.2.2.2.2.1 x.2.2.2.2.2.2.1 x.2.2.2.2.2.2.2.1 x.2.2.2.2.2.2.2.2.1 x.2.2.2.2.2.2.2.2.2.1 x.2.2.2.2.2.2.2.2.2.2.1 x.2.2.2.2.2.2.2.2.2.2.2.1 y.1
def zsA (zi:List Term→Bool×Int) (n:Nat) (n_:Int) (inner:Int) (t13:List Term) (t14:Int) (t15:Int) (t20:List Factor) (t21:Int) (t22:Int) (t32:List (List Term)) (t33:Int) (t34:Int) (f:Factor):Bool×ttTannotationnesting1:=zX (zjr zi) default n (n_,(),inner,t13,t14,t15,t20,t21,t22,t32,t33,t34,()) (f,())
def zrM (r:ttTannotationnesting1):LTree ty:=.done (.exit 4) [.lit (.int .i64 r.1),.ptr 256 0,.lit (.int .i64 r.2.1),.sl 42 r.2.2.1,.lit (.int .i64 r.2.2.2.1),.lit (.int .i64 r.2.2.2.2.1),.sl 50 r.2.2.2.2.2.1,.lit (.int .i64 r.2.2.2.2.2.2.1),.lit (.int .i64 r.2.2.2.2.2.2.2.1)] [.box (base.enc 50 r.2.2.2.2.2.2.2.2) false]
def ztr:LL ty ttTannotationnesting0:=za (lInt .i64) (za (ze9 256 0) (za (lInt .i64) (za (lSl 42) (za (lInt .i64) (za (lInt .i64) (za (lSl 50) (za (lInt .i64) (za (lInt .i64) (za (lSl 23) (za (lInt .i64) (za (lInt .i64) zH)))))))))))
def ztt:BL ty (Factor×Unit):=bBox (zgz (fun x=>(⟨⟨x.1,⟨x.2.1,x.2.2.1⟩,x.2.2.2.1,x.2.2.2.2.1,x.2.2.2.2.2.1,x.2.2.2.2.2.2.1,⟨x.2.2.2.2.2.2.2.1,x.2.2.2.2.2.2.2.2.1,x.2.2.2.2.2.2.2.2.2.1⟩⟩,x.2.2.2.2.2.2.2.2.2.2.1⟩:Factor)) (fun x=>(x.Atom.Kind,x.Atom.Row.Table,x.Atom.Row.Seq,x.Atom.Args,x.Atom.Func,x.Atom.Items,x.Atom.Op,x.Atom.Bound.Kind,x.Atom.Bound.Int,x.Atom.Bound.Text,x.Exp,())) (fun _=>rfl) (za (lInt .i64) (za (lInt .i64) (za (lInt .i64) (za (lSl 23) (za (lInt .i64) (za (lSl 52) (za (lInt .i64) (za (lInt .i64) (za (lInt .i64) (za lStr (za (lInt .i64) zH)))))))))))) false (bNil)
def zgD (zi:List Term→Bool×Int) (n_:Int) (inner:Int) (t13:List Term) (t14:Int) (t15:Int) (t20:List Factor) (t21:Int) (t22:Int) (t45:List Weighted) (t46:Int) (t47:Int):Wy ttTannotationnesting2 (Unit) ttTannotationnesting3:=.i (decide (t47<t46)) (.i (decide (0≤t47)&&decide (t47<Int.ofNat t45.length)) (.bn (zi (t45.getD t47.toNat default).Ann) fun r2=>.h (n_,(if r2>inner then r2 else inner),t13,t14,t15,t20,t21,t22,t45,t46,(IntKind.i64.wrap (t47+1)),()) ()) .d) (.k (n_,inner,t13,t14,t15,t20,t21,t22))
def zjI (zi:List Term→Bool×Int) (x:ttTannotationnesting2) (y:Unit):Wy ttTannotationnesting2 (Unit) ttTannotationnesting3:=zgD zi x.1 x.2.1 x.2.2.1 x.2.2.2.1 x.2.2.2.2.1 x.2.2.2.2.2.1 x.2.2.2.2.2.2.1 x.2.2.2.2.2.2.2.1 x.2.2.2.2.2.2.2.2.1 x.2.2.2.2.2.2.2.2.2.1 x.2.2.2.2.2.2.2.2.2.2.1
def zsn (zi:List Term→Bool×Int) (n:Nat) (n_:Int) (inner:Int) (t13:List Term) (t14:Int) (t15:Int) (t20:List Factor) (t21:Int) (t22:Int) (t45:List Weighted) (t46:Int) (t47:Int):Bool×ttTannotationnesting3:=zX (zjI zi) default n (n_,inner,t13,t14,t15,t20,t21,t22,t45,t46,t47,()) ()
def zrO (r:ttTannotationnesting3):LTree ty:=.done (.exit 6) [.lit (.int .i64 r.1),.lit (.int .i64 r.2.1),.sl 42 r.2.2.1,.lit (.int .i64 r.2.2.2.1),.lit (.int .i64 r.2.2.2.2.1),.sl 50 r.2.2.2.2.2.1,.lit (.int .i64 r.2.2.2.2.2.2.1),.lit (.int .i64 r.2.2.2.2.2.2.2)] []
def ztn:LL ty ttTannotationnesting2:=za (lInt .i64) (za (lInt .i64) (za (lSl 42) (za (lInt .i64) (za (lInt .i64) (za (lSl 50) (za (lInt .i64) (za (lInt .i64) (za (lSl 52) (za (lInt .i64) (za (lInt .i64) zH))))))))))
def ztf:BL ty (Unit):=bNil
def zhy (zi:List Term→Bool×Int) (n_:Int) (t13:List Term) (t14:Int) (t15:Int) (t20:List Factor) (t21:Int) (t22:Int):Wy ttTannotationnesting4 (Unit) ttTannotationnesting5:=.i (decide (t22<t21)) (.i (decide (0≤t22)&&decide (t22<Int.ofNat t20.length)) (.i ((t20.getD t22.toNat default).Atom.Kind==0) (.h (n_,t13,t14,t15,t20,t21,(IntKind.i64.wrap (t22+1)),()) ()) (.bn (zsA zi ((n_.toNat +Int.toNat 0+t13.length+t14.toNat +t15.toNat +t20.length+t21.toNat +t22.toNat +(t20.getD t22.toNat default).Atom.Args.length+(Int.ofNat (t20.getD t22.toNat default).Atom.Args.length).toNat +Int.toNat 0+1)+(FactorOf.mk (Atom.mk (t20.getD t22.toNat default).Atom.Kind (t20.getD t22.toNat default).Atom.Row (t20.getD t22.toNat default).Atom.Args (t20.getD t22.toNat default).Atom.Func (t20.getD t22.toNat default).Atom.Items (t20.getD t22.toNat default).Atom.Op (t20.getD t22.toNat default).Atom.Bound) (t20.getD t22.toNat default).Exp).Atom.Args.length+(FactorOf.mk (Atom.mk (t20.getD t22.toNat default).Atom.Kind (t20.getD t22.toNat default).Atom.Row (t20.getD t22.toNat default).Atom.Args (t20.getD t22.toNat default).Atom.Func (t20.getD t22.toNat default).Atom.Items (t20.getD t22.toNat default).Atom.Op (t20.getD t22.toNat default).Atom.Bound) (t20.getD t22.toNat default).Exp).Atom.Items.length) n_ 0 t13 t14 t15 t20 t21 t22 (t20.getD t22.toNat default).Atom.Args (Int.ofNat (t20.getD t22.toNat default).Atom.Args.length) 0 (FactorOf.mk (Atom.mk (t20.getD t22.toNat default).Atom.Kind (t20.getD t22.toNat default).Atom.Row (t20.getD t22.toNat default).Atom.Args (t20.getD t22.toNat default).Atom.Func (t20.getD t22.toNat default).Atom.Items (t20.getD t22.toNat default).Atom.Op (t20.getD t22.toNat default).Atom.Bound) (t20.getD t22.toNat default).Exp)) fun r5=>.bn (zsn zi (r5.1.toNat +r5.2.1.toNat +r5.2.2.1.length+r5.2.2.2.1.toNat +r5.2.2.2.2.1.toNat +r5.2.2.2.2.2.1.length+r5.2.2.2.2.2.2.1.toNat +r5.2.2.2.2.2.2.2.1.toNat +r5.2.2.2.2.2.2.2.2.Atom.Items.length+(Int.ofNat r5.2.2.2.2.2.2.2.2.Atom.Items.length).toNat +Int.toNat 0+1) r5.1 r5.2.1 r5.2.2.1 r5.2.2.2.1 r5.2.2.2.2.1 r5.2.2.2.2.2.1 r5.2.2.2.2.2.2.1 r5.2.2.2.2.2.2.2.1 r5.2.2.2.2.2.2.2.2.Atom.Items (Int.ofNat r5.2.2.2.2.2.2.2.2.Atom.Items.length) 0) fun r4=>.h ((if IntKind.i64.wrap (1+r4.2.1)>r4.1 then IntKind.i64.wrap (1+r4.2.1) else r4.1),(r4.2.2.1),(r4.2.2.2.1),(r4.2.2.2.2.1),(r4.2.2.2.2.2.1),(r4.2.2.2.2.2.2.1),(IntKind.i64.wrap (r4.2.2.2.2.2.2.2+1)),()) ())) .d) (.k (n_,t13,t14,t15))
def zj9 (zi:List Term→Bool×Int) (x:ttTannotationnesting4) (y:Unit):Wy ttTannotationnesting4 (Unit) ttTannotationnesting5:=zhy zi x.1 x.2.1 x.2.2.1 x.2.2.2.1 x.2.2.2.2.1 x.2.2.2.2.2.1 x.2.2.2.2.2.2.1
def zt8 (zi:List Term→Bool×Int) (n:Nat) (n_:Int) (t13:List Term) (t14:Int) (t15:Int) (t20:List Factor) (t21:Int) (t22:Int):Bool×ttTannotationnesting5:=zX (zj9 zi) default n (n_,t13,t14,t15,t20,t21,t22,()) ()
def zsy (r:ttTannotationnesting5):LTree ty:=.done (.exit 2) [.lit (.int .i64 r.1),.sl 42 r.2.1,.lit (.int .i64 r.2.2.1),.lit (.int .i64 r.2.2.2)] []
def ztY:LL ty ttTannotationnesting4:=za (lInt .i64) (za (lSl 42) (za (lInt .i64) (za (lInt .i64) (za (lSl 50) (za (lInt .i64) (za (lInt .i64) zH))))))
def zub:BL ty (Unit):=bNil
def zhF (zi:List Term→Bool×Int) (n_:Int) (t13:List Term) (t14:Int) (t15:Int):Wy ttTannotationnesting6 (Unit) (Int):=.i (decide (t15<t14)) (.i (decide (0≤t15)&&decide (t15<Int.ofNat t13.length)) (.bn (zt8 zi (n_.toNat +t13.length+t14.toNat +t15.toNat +(t13.getD t15.toNat default).Factors.length+(Int.ofNat (t13.getD t15.toNat default).Factors.length).toNat +Int.toNat 0+1) n_ t13 t14 t15 (t13.getD t15.toNat default).Factors (Int.ofNat (t13.getD t15.toNat default).Factors.length) 0) fun r8=>.h ((r8.1),(r8.2.1),(r8.2.2.1),(IntKind.i64.wrap (r8.2.2.2+1)),()) ()) .d) (.k n_)
def zkd (zi:List Term→Bool×Int) (x:ttTannotationnesting6) (y:Unit):Wy ttTannotationnesting6 (Unit) (Int):=zhF zi x.1 x.2.1 x.2.2.1 x.2.2.2.1
def zt6 (zi:List Term→Bool×Int) (n:Nat) (n_:Int) (t13:List Term) (t14:Int) (t15:Int):Bool×Int:=zX (zkd zi) default n (n_,t13,t14,t15,()) ()
def zsJ (r:Int):LTree ty:=.done (.exit 0) [.lit (.int .i64 r)] []
def zt7:LL ty ttTannotationnesting6:=za (lInt .i64) (za (lSl 42) (za (lInt .i64) (za (lInt .i64) zH)))
def zul:BL ty (Unit):=bNil
def zrS (x:ttTannotationnesting0) (y:Factor×Unit):Nat:=((Int.toNat x.1+Int.toNat x.2.2.1+x.2.2.2.1.length+Int.toNat x.2.2.2.2.1+Int.toNat x.2.2.2.2.2.1+x.2.2.2.2.2.2.1.length+Int.toNat x.2.2.2.2.2.2.2.1+Int.toNat x.2.2.2.2.2.2.2.2.1+x.2.2.2.2.2.2.2.2.2.1.length+Int.toNat x.2.2.2.2.2.2.2.2.2.2.1+Int.toNat x.2.2.2.2.2.2.2.2.2.2.2.1+1)+y.1.Atom.Args.length+y.1.Atom.Items.length)
def zr9 (x:ttTannotationnesting2) (y:Unit):Nat:=(Int.toNat x.1+Int.toNat x.2.1+x.2.2.1.length+Int.toNat x.2.2.2.1+Int.toNat x.2.2.2.2.1+x.2.2.2.2.2.1.length+Int.toNat x.2.2.2.2.2.2.1+Int.toNat x.2.2.2.2.2.2.2.1+x.2.2.2.2.2.2.2.2.1.length+Int.toNat x.2.2.2.2.2.2.2.2.2.1+Int.toNat x.2.2.2.2.2.2.2.2.2.2.1+1)
def zs2 (x:ttTannotationnesting4) (y:Unit):Nat:=(Int.toNat x.1+x.2.1.length+Int.toNat x.2.2.1+Int.toNat x.2.2.2.1+x.2.2.2.2.1.length+Int.toNat x.2.2.2.2.2.1+Int.toNat x.2.2.2.2.2.2.1+1)
def zsH (x:ttTannotationnesting6) (y:Unit):Nat:=(Int.toNat x.1+x.2.1.length+Int.toNat x.2.2.1+Int.toNat x.2.2.2.1+1)
def zhJ (zi:List Term→Bool×Int):Cx ty:=mkCx base 64 [(120,(zjl zi))] [] [(3,[(3,.keep),(13,.keep),(14,.keep),(15,.keep)]),(6,[(3,.keep),(13,.keep),(14,.keep),(15,.keep),(20,.keep),(21,.keep),(22,.keep)]),(11,[(3,.keep),(7,.keep),(8,.keep),(13,.keep),(14,.keep),(15,.keep),(20,.keep),(21,.keep),(22,.keep),(32,.keep),(33,.keep),(34,.keep)]),(16,[(3,.keep),(8,.keep),(13,.keep),(14,.keep),(15,.keep),(20,.keep),(21,.keep),(22,.keep),(45,.keep),(46,.keep),(47,.keep)])] [(3,1,[(3,.keep)]),(6,3,[(3,.keep),(13,.keep),(14,.keep),(15,.keep)]),(11,5,[(3,.keep),(7,.keep),(8,.keep),(13,.keep),(14,.keep),(15,.keep),(20,.keep),(21,.keep),(22,.keep)]),(16,7,[(3,.keep),(8,.keep),(13,.keep),(14,.keep),(15,.keep),(20,.keep),(21,.keep),(22,.keep)])] [(11,spW ztr ztt (zjr zi) default zrM zrS),(16,spW ztn ztf (zjI zi) default zrO zr9),(6,spW ztY zub (zj9 zi) default zsy zs2),(3,spW zt7 zul (zkd zi) default zsJ zsH)] []
theorem zDh (zi:List Term→Bool×Int):zW (zhJ zi) (lp (body Tryz.f120) 2):=zK (id:=11) (V:=ztr) (B:=ztt) (W:=zjr zi) (z:=default) (tr:=zrM) (m:=zrS)
theorem zC5 (zi:List Term→Bool×Int):zW (zhJ zi) (lp (body Tryz.f120) 3):=zK (id:=16) (V:=ztn) (B:=ztf) (W:=zjI zi) (z:=default) (tr:=zrO) (m:=zr9)
theorem zDx (zi:List Term→Bool×Int):zW (zhJ zi) (lp (body Tryz.f120) 1):=zK (id:=6) (V:=ztY) (B:=zub) (W:=zj9 zi) (z:=default) (tr:=zsy) (m:=zs2)
theorem zEX (zi:List Term→Bool×Int):zW (zhJ zi) (lp (body Tryz.f120) 0):=zK (id:=3) (V:=zt7) (B:=zul) (W:=zkd zi) (z:=default) (tr:=zsJ) (m:=zsH)
def zoH (zi:List Term→Bool×Int) (a:List Term):Wy0 (Int):=.bn (zt6 zi (Int.toNat 0+a.length+(Int.ofNat a.length).toNat +Int.toNat 0+1) 0 a (Int.ofNat a.length) 0) fun r10=>.k r10
def zml (zi:List Term→Bool×Int) (a:List Term):Bool×Int:=(zoH zi a).fin default
theorem zB1 (zi:List Term→Bool×Int) (zGV:Sound Tryz.prog base 120 (zjl zi)):Sound Tryz.prog base 120 (zjl (zml zi)):=
 zn (cx':=(zhJ zi)) zJ zl zw (zm ⟨zGV,trivial⟩) Tryz.call120 Tryz.func120 (c:=body Tryz.f120) (by kernel_rfl) (zh (l:=[lp (body Tryz.f120) 0,lp (body Tryz.f120) 1,lp (body Tryz.f120) 2,lp (body Tryz.f120) 3]) (by kernel_rfl) ⟨zEX zi,zDx zi,zDh zi,zC5 zi,trivial⟩) (sg:=⟨[.pure],[]⟩) (A:=zwW) (res:=zu8) (W:=fun x=>zoH zi x.1) (z:=default)
def zNu:Nat→(List Term→Bool×Int)
 | 0=>fun _=>(false,default)
 | n+1=>zml (zNu n)
def ze6 (n:Nat):List Term→Bool×Int:=zNu n
theorem zFq (n:Nat):ze6 (n+1)=zml (ze6 n):=rfl
theorem zJW:∀ n,Sound Tryz.prog base 120 (zjl (ze6 n))
 | 0=>zbj Tryz.call120 (fun _=>rfl)
 | n+1=>by
  have ih:=zJW n
  exact zB1 _ (ih)
def ztp:List Term→Bool×Int:=ze6 1000
def annotation_nesting_spec:Ab.Spec ty:=zjl ztp
theorem zDA:Sound Tryz.prog base 120 annotation_nesting_spec:=(zJW 1000)
def zB8:Cx ty:=mkCx base 13 [] [] [] [] [] []
def zmq (f:Factor):Wy0 (Bool):=.i (decide (f.Exp>64)) (.k true) (.k (decide (Int.ofNat f.Atom.Items.length>1024)))
def ze3 (f:Factor):Bool×Bool:=(zmq f).fin default
def zqg (r:Bool):ARes ty:=⟨[.pure (.lit (.bool r))],[]⟩
def zsf:AL base (Factor×Unit):=zf (zg (vAgg 50)) aNil
def zhp:Ab.Spec ty:=zk zsf fun x=>((ze3 x.1).1,zqg (ze3 x.1).2)
theorem zj4:Sound Tryz.prog base 122 zhp:=
 zn (cx':=zB8) zJ zl zw (zm trivial) Tryz.call122 Tryz.func122 (c:=body Tryz.f122) (by kernel_rfl) (zh (l:=[]) (by kernel_rfl) trivial) (sg:=⟨[.pure],[]⟩) (A:=zsf) (res:=zqg) (W:=fun x=>zmq x.1) (z:=default)
abbrev ttTslicesIndexFuncLapiFactorapiFactorwi0:=List Factor×Unit×Int×Int×Unit
def zh2 (s:List Factor) (t7:Int) (t8:Int):Wy ttTslicesIndexFuncLapiFactorapiFactorwi0 (Unit) (Int⊕Unit):=.i (decide (t8<t7)) (.i (decide (0≤t8)&&decide (t8<Int.ofNat s.length)) (.bn (ze3 (FactorOf.mk (Atom.mk (s.getD t8.toNat default).Atom.Kind (s.getD t8.toNat default).Atom.Row (s.getD t8.toNat default).Atom.Args (s.getD t8.toNat default).Atom.Func (s.getD t8.toNat default).Atom.Items (s.getD t8.toNat default).Atom.Op (s.getD t8.toNat default).Atom.Bound) (s.getD t8.toNat default).Exp)) fun r0=>.i (r0) (.k (.inl t8)) (.h (s,(),t7,(IntKind.i64.wrap (t8+1)),()) ())) .d) (.k (.inr ()))
def zb8 (x:ttTslicesIndexFuncLapiFactorapiFactorwi0) (y:Unit):Wy ttTslicesIndexFuncLapiFactorapiFactorwi0 (Unit) (Int⊕Unit):=zh2 x.1 x.2.2.1 x.2.2.2.1
def zh0 (n:Nat) (s:List Factor) (t7:Int) (t8:Int):Bool×(Int⊕Unit):=zX (zb8) (.inl default) n (s,(),t7,t8,()) ()
def zhC (r:Int⊕Unit):LTree ty:=.ite (isL r) (.done .ret [.lit (.int .i64 (getL r))] []) (.done (.exit 0) [] [])
def zh7:LL ty ttTslicesIndexFuncLapiFactorapiFactorwi0:=za (lSl 50) (za (lFn 122 (zH)) (za (lInt .i64) (za (lInt .i64) zH)))
def zib:BL ty (Unit):=bNil
def zhE (x:ttTslicesIndexFuncLapiFactorapiFactorwi0) (y:Unit):Nat:=(x.1.length+Int.toNat x.2.2.1+Int.toNat x.2.2.2.1+1)
def zh8:Cx ty:=mkCx base 19 [(122,zhp)] [] [(2,[(0,.keep),(1,.keep),(7,.keep),(8,.keep)])] [(2,1,[]),(2,0,[(4,.keep)])] [(2,spW zh7 zib (zb8) (.inl default) zhC zhE)] []
theorem znP:zW zh8 (lp (body Tryz.f150) 0):=zK (id:=2) (V:=zh7) (B:=zib) (W:=zb8) (z:=.inl default) (tr:=zhC) (m:=zhE)
def zek (s:List Factor):Wy0 (Int):=.bn (zh0 (s.length+(Int.ofNat s.length).toNat +Int.toNat 0+1) s (Int.ofNat s.length) 0) fun r2=>.i (isL r2) (.k (getL r2)) (.k (-1:Int))
def zcr (s:List Factor):Bool×Int:=(zek s).fin default
def zhz (r:Int):ARes ty:=⟨[.pure (.lit (.int .i64 r))],[]⟩
def zih:AL base (List Factor×Unit×Unit):=zf (zg (vSl 50)) (zf (zg (vFn 122 vNil)) aNil)
def zd6:Ab.Spec ty:=zk zih fun x=>((zcr x.1).1,zhz (zcr x.1).2)
theorem zgL:Sound Tryz.prog base 150 zd6:=
 zn (cx':=zh8) zJ zl zw (zm ⟨zj4,trivial⟩) Tryz.call150 Tryz.func150 (c:=body Tryz.f150) (by kernel_rfl) (zh (l:=[lp (body Tryz.f150) 0]) (by kernel_rfl) ⟨znP,trivial⟩) (sg:=⟨[.pure],[]⟩) (A:=zih) (res:=zhz) (W:=fun x=>zek x.1) (z:=default)
def zmV:Cx ty:=mkCx base 9 [(122,zhp),(150,(zL0 zd6 zd6))] [] [] [] [] []
def zd4 (s:List Factor):Wy0 (Bool):=.bn (zcr s) fun r0=>.k (decide (r0≥0))
def zb7 (s:List Factor):Bool×Bool:=(zd4 s).fin default
def zgf (r:Bool):ARes ty:=⟨[.pure (.lit (.bool r))],[]⟩
def zhl:AL base (List Factor×Unit×Unit):=zf (zg (vSl 50)) (zf (zg (vFn 122 vNil)) aNil)
def zf5:Ab.Spec ty:=zk zhl fun x=>((zb7 x.1).1,zgf (zb7 x.1).2)
theorem zlT:Sound Tryz.prog base 107 zf5:=
 zn (cx':=zmV) zJ zl zw (zm ⟨zj4,(Sound.or (zgL) (zgL)),trivial⟩) Tryz.call107 Tryz.func107 (c:=body Tryz.f107) (by kernel_rfl) (zh (l:=[]) (by kernel_rfl) trivial) (sg:=⟨[.pure],[]⟩) (A:=zhl) (res:=zgf) (W:=fun x=>zd4 x.1) (z:=default)
def zFp:Cx ty:=mkCx base 12 [(107,zf5),(122,zhp)] [] [] [] [] []
def zoD (t:Term):Wy0 (Bool):=.i (decide (Int.ofNat t.Factors.length>64)) (.k true) (.bn (zb7 t.Factors) fun r0=>.k r0)
def zjo (t:Term):Bool×Bool:=(zoD t).fin default
def zsE (r:Bool):ARes ty:=⟨[.pure (.lit (.bool r))],[]⟩
def zva:AL base (Term×Unit):=zf (zg (vAgg 42)) aNil
def ziU:Ab.Spec ty:=zk zva fun x=>((zjo x.1).1,zsE (zjo x.1).2)
theorem zlM:Sound Tryz.prog base 121 ziU:=
 zn (cx':=zFp) zJ zl zw (zm ⟨zlT,zj4,trivial⟩) Tryz.call121 Tryz.func121 (c:=body Tryz.f121) (by kernel_rfl) (zh (l:=[]) (by kernel_rfl) trivial) (sg:=⟨[.pure],[]⟩) (A:=zva) (res:=zsE) (W:=fun x=>zoD x.1) (z:=default)
abbrev ttTslicesIndexFuncapiAnnotationapiTermwi0:=List Term×Unit×Int×Int×Unit
def znH (s:List Term) (t7:Int) (t8:Int):Wy ttTslicesIndexFuncapiAnnotationapiTermwi0 (Unit) (Int⊕Unit):=.i (decide (t8<t7)) (.i (decide (0≤t8)&&decide (t8<Int.ofNat s.length)) (.bn (zjo (s.getD t8.toNat default)) fun r0=>.i (r0) (.k (.inl t8)) (.h (s,(),t7,(IntKind.i64.wrap (t8+1)),()) ())) .d) (.k (.inr ()))
def zeb (x:ttTslicesIndexFuncapiAnnotationapiTermwi0) (y:Unit):Wy ttTslicesIndexFuncapiAnnotationapiTermwi0 (Unit) (Int⊕Unit):=znH x.1 x.2.2.1 x.2.2.2.1
def znL (n:Nat) (s:List Term) (t7:Int) (t8:Int):Bool×(Int⊕Unit):=zX (zeb) (.inl default) n (s,(),t7,t8,()) ()
def zhb (r:Int⊕Unit):LTree ty:=.ite (isL r) (.done .ret [.lit (.int .i64 (getL r))] []) (.done (.exit 0) [] [])
def zhP:LL ty ttTslicesIndexFuncapiAnnotationapiTermwi0:=za (lSl 42) (za (lFn 121 (zH)) (za (lInt .i64) (za (lInt .i64) zH)))
def zhO:BL ty (Unit):=bNil
def zhg (x:ttTslicesIndexFuncapiAnnotationapiTermwi0) (y:Unit):Nat:=(x.1.length+Int.toNat x.2.2.1+Int.toNat x.2.2.2.1+1)
def zhR:Cx ty:=mkCx base 19 [(121,ziU)] [] [(2,[(0,.keep),(1,.keep),(7,.keep),(8,.keep)])] [(2,1,[]),(2,0,[(4,.keep)])] [(2,spW zhP zhO (zeb) (.inl default) zhb zhg)] []
theorem znz:zW zhR (lp (body Tryz.f149) 0):=zK (id:=2) (V:=zhP) (B:=zhO) (W:=zeb) (z:=.inl default) (tr:=zhb) (m:=zhg)
def zh4 (s:List Term):Wy0 (Int):=.bn (znL (s.length+(Int.ofNat s.length).toNat +Int.toNat 0+1) s (Int.ofNat s.length) 0) fun r2=>.i (isL r2) (.k (getL r2)) (.k (-1:Int))
def zdc (s:List Term):Bool×Int:=(zh4 s).fin default
def zhj (r:Int):ARes ty:=⟨[.pure (.lit (.int .i64 r))],[]⟩
def zh5:AL base (List Term×Unit×Unit):=zf (zg (vSl 42)) (zf (zg (vFn 121 vNil)) aNil)
def zdV:Ab.Spec ty:=zk zh5 fun x=>((zdc x.1).1,zhj (zdc x.1).2)
theorem zgo:Sound Tryz.prog base 149 zdV:=
 zn (cx':=zhR) zJ zl zw (zm ⟨zlM,trivial⟩) Tryz.call149 Tryz.func149 (c:=body Tryz.f149) (by kernel_rfl) (zh (l:=[lp (body Tryz.f149) 0]) (by kernel_rfl) ⟨znz,trivial⟩) (sg:=⟨[.pure],[]⟩) (A:=zh5) (res:=zhj) (W:=fun x=>zh4 x.1) (z:=default)
def zmN:Cx ty:=mkCx base 9 [(121,ziU),(149,(zL0 zdV zdV))] [] [] [] [] []
def zdX (s:List Term):Wy0 (Bool):=.bn (zdc s) fun r0=>.k (decide (r0≥0))
def zbY (s:List Term):Bool×Bool:=(zdX s).fin default
def zfX (r:Bool):ARes ty:=⟨[.pure (.lit (.bool r))],[]⟩
def zgW:AL base (List Term×Unit×Unit):=zf (zg (vSl 42)) (zf (zg (vFn 121 vNil)) aNil)
def zfM:Ab.Spec ty:=zk zgW fun x=>((zbY x.1).1,zfX (zbY x.1).2)
theorem zlJ:Sound Tryz.prog base 105 zfM:=
 zn (cx':=zmN) zJ zl zw (zm ⟨zlM,(Sound.or (zgo) (zgo)),trivial⟩) Tryz.call105 Tryz.func105 (c:=body Tryz.f105) (by kernel_rfl) (zh (l:=[]) (by kernel_rfl) trivial) (sg:=⟨[.pure],[]⟩) (A:=zgW) (res:=zfX) (W:=fun x=>zdX x.1) (z:=default)
def zI6:Cx ty:=mkCx base 19 [(47,annotation_Size_spec),(105,zfM),(120,annotation_nesting_spec),(121,ziU)] [] [] [] [] []
def zrr (a:List Term):Wy0 (Bool):=.i (decide (Int.ofNat a.length>512)) (.k false) (.bn (ztp a) fun r2=>.i (decide (r2>8)) (.k false) (.bn (zyc a) fun r1=>.i (decide (r1>4096)) (.k false) (.bn (zbY a) fun r0=>.k (!r0))))
def zjN (a:List Term):Bool×Bool:=(zrr a).fin default
def zv7 (r:Bool):ARes ty:=⟨[.pure (.lit (.bool r))],[]⟩
def zyT:AL base (List Term×Unit):=zf (zg (vSl 42)) aNil
def zoK:Ab.Spec ty:=zk zyT fun x=>((zjN x.1).1,zv7 (zjN x.1).2)
theorem zue:Sound Tryz.prog base 70 zoK:=
 zn (cx':=zI6) zJ zl zw (zm ⟨zIt,zlJ,zDA,zlM,trivial⟩) Tryz.call70 Tryz.func70 (c:=body Tryz.f70) (by kernel_rfl) (zh (l:=[]) (by kernel_rfl) trivial) (sg:=⟨[.pure],[]⟩) (A:=zyT) (res:=zv7) (W:=fun x=>zrr x.1) (z:=default)
abbrev ttTannotationValid0:=List Term×Unit×List Term×Int×Int×List Factor×Int×Int×Unit
abbrev ttTannotationValid1:=Bool⊕(List Term×List Term×Int×Int)
abbrev ttTannotationValid2:=List Term×List Term×Int×Int×Unit
def ziC (zA:Atom→Bool×Bool) (a:List Term) (t10:List Term) (t11:Int) (t12:Int) (t40:List Factor) (t41:Int) (t42:Int) (t:Term):Wy ttTannotationValid0 (Term×Unit) ttTannotationValid1:=.i (decide (t42<t41)) (.i (decide (0≤t42)&&decide (t42<Int.ofNat t40.length)) (.i (decide ((t40.getD t42.toNat default).Exp<1)) (.k (.inl false)) (.bn (zez (Atom.mk (t40.getD t42.toNat default).Atom.Kind (t40.getD t42.toNat default).Atom.Row (t40.getD t42.toNat default).Atom.Args (t40.getD t42.toNat default).Atom.Func (t40.getD t42.toNat default).Atom.Items (t40.getD t42.toNat default).Atom.Op (t40.getD t42.toNat default).Atom.Bound)) fun r6=>.i (r6) (.i ((t40.getD t42.toNat default).Exp != 1) (.k (.inl false)) (.i (decide (t42>0)) (.i (decide (0≤IntKind.i64.wrap (t42 - 1))&&decide (IntKind.i64.wrap (t42 - 1)<Int.ofNat t.Factors.length)) (.bn (zhL (Atom.mk (t.Factors.getD (IntKind.i64.wrap (t42 - 1)).toNat default).Atom.Kind (t.Factors.getD (IntKind.i64.wrap (t42 - 1)).toNat default).Atom.Row (t.Factors.getD (IntKind.i64.wrap (t42 - 1)).toNat default).Atom.Args (t.Factors.getD (IntKind.i64.wrap (t42 - 1)).toNat default).Atom.Func (t.Factors.getD (IntKind.i64.wrap (t42 - 1)).toNat default).Atom.Items (t.Factors.getD (IntKind.i64.wrap (t42 - 1)).toNat default).Atom.Op (t.Factors.getD (IntKind.i64.wrap (t42 - 1)).toNat default).Atom.Bound) (Atom.mk (t40.getD t42.toNat default).Atom.Kind (t40.getD t42.toNat default).Atom.Row (t40.getD t42.toNat default).Atom.Args (t40.getD t42.toNat default).Atom.Func (t40.getD t42.toNat default).Atom.Items (t40.getD t42.toNat default).Atom.Op (t40.getD t42.toNat default).Atom.Bound)) fun r1=>.i (decide (r1≥0)) (.k (.inl false)) (.bn (zA (Atom.mk (t40.getD t42.toNat default).Atom.Kind (t40.getD t42.toNat default).Atom.Row (t40.getD t42.toNat default).Atom.Args (t40.getD t42.toNat default).Atom.Func (t40.getD t42.toNat default).Atom.Items (t40.getD t42.toNat default).Atom.Op (t40.getD t42.toNat default).Atom.Bound)) fun r0=>.i (!r0) (.k (.inl false)) (.h (a,(),t10,t11,t12,t40,t41,(IntKind.i64.wrap (t42+1)),()) (t,())))) .d) (.bn (zA (Atom.mk (t40.getD t42.toNat default).Atom.Kind (t40.getD t42.toNat default).Atom.Row (t40.getD t42.toNat default).Atom.Args (t40.getD t42.toNat default).Atom.Func (t40.getD t42.toNat default).Atom.Items (t40.getD t42.toNat default).Atom.Op (t40.getD t42.toNat default).Atom.Bound)) fun r2=>.i (!r2) (.k (.inl false)) (.h (a,(),t10,t11,t12,t40,t41,(IntKind.i64.wrap (t42+1)),()) (t,()))))) (.i (decide (t42>0)) (.i (decide (0≤IntKind.i64.wrap (t42 - 1))&&decide (IntKind.i64.wrap (t42 - 1)<Int.ofNat t.Factors.length)) (.bn (zhL (Atom.mk (t.Factors.getD (IntKind.i64.wrap (t42 - 1)).toNat default).Atom.Kind (t.Factors.getD (IntKind.i64.wrap (t42 - 1)).toNat default).Atom.Row (t.Factors.getD (IntKind.i64.wrap (t42 - 1)).toNat default).Atom.Args (t.Factors.getD (IntKind.i64.wrap (t42 - 1)).toNat default).Atom.Func (t.Factors.getD (IntKind.i64.wrap (t42 - 1)).toNat default).Atom.Items (t.Factors.getD (IntKind.i64.wrap (t42 - 1)).toNat default).Atom.Op (t.Factors.getD (IntKind.i64.wrap (t42 - 1)).toNat default).Atom.Bound) (Atom.mk (t40.getD t42.toNat default).Atom.Kind (t40.getD t42.toNat default).Atom.Row (t40.getD t42.toNat default).Atom.Args (t40.getD t42.toNat default).Atom.Func (t40.getD t42.toNat default).Atom.Items (t40.getD t42.toNat default).Atom.Op (t40.getD t42.toNat default).Atom.Bound)) fun r4=>.i (decide (r4≥0)) (.k (.inl false)) (.bn (zA (Atom.mk (t40.getD t42.toNat default).Atom.Kind (t40.getD t42.toNat default).Atom.Row (t40.getD t42.toNat default).Atom.Args (t40.getD t42.toNat default).Atom.Func (t40.getD t42.toNat default).Atom.Items (t40.getD t42.toNat default).Atom.Op (t40.getD t42.toNat default).Atom.Bound)) fun r3=>.i (!r3) (.k (.inl false)) (.h (a,(),t10,t11,t12,t40,t41,(IntKind.i64.wrap (t42+1)),()) (t,())))) .d) (.bn (zA (Atom.mk (t40.getD t42.toNat default).Atom.Kind (t40.getD t42.toNat default).Atom.Row (t40.getD t42.toNat default).Atom.Args (t40.getD t42.toNat default).Atom.Func (t40.getD t42.toNat default).Atom.Items (t40.getD t42.toNat default).Atom.Op (t40.getD t42.toNat default).Atom.Bound)) fun r5=>.i (!r5) (.k (.inl false)) (.h (a,(),t10,t11,t12,t40,t41,(IntKind.i64.wrap (t42+1)),()) (t,())))))) .d) (.k (.inr (a,t10,t11,t12)))
def zlz (zA:Atom→Bool×Bool) (x:ttTannotationValid0) (y:Term×Unit):Wy ttTannotationValid0 (Term×Unit) ttTannotationValid1:=ziC zA x.1 x.2.2.1 x.2.2.2.1 x.2.2.2.2.1 x.2.2.2.2.2.1 x.2.2.2.2.2.2.1 x.2.2.2.2.2.2.2.1 y.1
def zpM (zA:Atom→Bool×Bool) (n:Nat) (a:List Term) (t10:List Term) (t11:Int) (t12:Int) (t40:List Factor) (t41:Int) (t42:Int) (t:Term):Bool×ttTannotationValid1:=zX (zlz zA) (.inl default) n (a,(),t10,t11,t12,t40,t41,t42,()) (t,())
def zve (r:ttTannotationValid1):LTree ty:=.ite (isL r) (.done .ret [.lit (.bool (getL r))] []) (.done (.exit 2) [.sl 42 (getR r).1,.sl 42 (getR r).2.1,.lit (.int .i64 (getR r).2.2.1),.lit (.int .i64 (getR r).2.2.2)] [])
def zwB:LL ty ttTannotationValid0:=za (lSl 42) (za (ze9 340 0) (za (lSl 42) (za (lInt .i64) (za (lInt .i64) (za (lSl 50) (za (lInt .i64) (za (lInt .i64) zH)))))))
def zwa:BL ty (Term×Unit):=bBox (zgz (fun x=>(⟨x.1,x.2.1⟩:Term)) (fun x=>(x.Coeff,x.Factors,())) (fun _=>rfl) (za (lInt .i64) (za (lSl 50) zH))) false (bNil)
def ziI (zA:Atom→Bool×Bool) (a:List Term) (t10:List Term) (t11:Int) (t12:Int):Wy ttTannotationValid2 (Unit) (Bool⊕Unit):=.i (decide (t12<t11)) (.i (decide (0≤t12)&&decide (t12<Int.ofNat t10.length)) (.i (decide ((t10.getD t12.toNat default).Coeff<1)) (.k (.inl false)) (.i (decide ((t10.getD t12.toNat default).Coeff>1152921504606846976)) (.k (.inl false)) (.i (decide (t12>0)) (.i (decide (0≤IntKind.i64.wrap (t12 - 1))&&decide (IntKind.i64.wrap (t12 - 1)<Int.ofNat a.length)) (.bn (zbL (a.getD (IntKind.i64.wrap (t12 - 1)).toNat default) (t10.getD t12.toNat default)) fun r15=>.i (decide (r15≥0)) (.k (.inl false)) (.bn (zpM zA (a.length+t10.length+t11.toNat +t12.toNat +(t10.getD t12.toNat default).Factors.length+(Int.ofNat (t10.getD t12.toNat default).Factors.length).toNat +Int.toNat 0+(t10.getD t12.toNat default).Factors.length+1) a t10 t11 t12 (t10.getD t12.toNat default).Factors (Int.ofNat (t10.getD t12.toNat default).Factors.length) 0 (t10.getD t12.toNat default)) fun r14=>.i (isL r14) (.k (.inl (getL r14))) (.h ((getR r14).1,(getR r14).2.1,(getR r14).2.2.1,(IntKind.i64.wrap ((getR r14).2.2.2+1)),()) ()))) .d) (.bn (zpM zA (a.length+t10.length+t11.toNat +t12.toNat +(t10.getD t12.toNat default).Factors.length+(Int.ofNat (t10.getD t12.toNat default).Factors.length).toNat +Int.toNat 0+(t10.getD t12.toNat default).Factors.length+1) a t10 t11 t12 (t10.getD t12.toNat default).Factors (Int.ofNat (t10.getD t12.toNat default).Factors.length) 0 (t10.getD t12.toNat default)) fun r16=>.i (isL r16) (.k (.inl (getL r16))) (.h ((getR r16).1,(getR r16).2.1,(getR r16).2.2.1,(IntKind.i64.wrap ((getR r16).2.2.2+1)),()) ()))))) .d) (.k (.inr ()))
def zly (zA:Atom→Bool×Bool) (x:ttTannotationValid2) (y:Unit):Wy ttTannotationValid2 (Unit) (Bool⊕Unit):=ziI zA x.1 x.2.1 x.2.2.1 x.2.2.2.1
def zwz (zA:Atom→Bool×Bool) (n:Nat) (a:List Term) (t10:List Term) (t11:Int) (t12:Int):Bool×(Bool⊕Unit):=zX (zly zA) (.inl default) n (a,t10,t11,t12,()) ()
def zvA (r:Bool⊕Unit):LTree ty:=.ite (isL r) (.done .ret [.lit (.bool (getL r))] []) (.done (.exit 0) [] [])
def zwp:LL ty ttTannotationValid2:=za (lSl 42) (za (lSl 42) (za (lInt .i64) (za (lInt .i64) zH)))
def zwi:BL ty (Unit):=bNil
def zvp (x:ttTannotationValid0) (y:Term×Unit):Nat:=(x.1.length+x.2.2.1.length+Int.toNat x.2.2.2.1+Int.toNat x.2.2.2.2.1+x.2.2.2.2.2.1.length+Int.toNat x.2.2.2.2.2.2.1+Int.toNat x.2.2.2.2.2.2.2.1+y.1.Factors.length+1)
def zuM (x:ttTannotationValid2) (y:Unit):Nat:=(x.1.length+x.2.1.length+Int.toNat x.2.2.1+Int.toNat x.2.2.2.1+1)
def zpi (zA:Atom→Bool×Bool):Cx ty:=mkCx base 85 [(70,zoK),(71,annotation_compareLists_spec),(72,zio),(73,annotation_compareAtoms_spec),(74,(zkK zA))] [] [(4,[(0,.keep),(10,.keep),(11,.keep),(12,.keep)]),(9,[(0,.keep),(4,.keep),(10,.keep),(11,.keep),(12,.keep),(40,.keep),(41,.keep),(42,.keep)])] [(4,1,[]),(4,0,[(2,.keep)]),(9,3,[(0,.keep),(10,.keep),(11,.keep),(12,.keep)]),(9,0,[(2,.keep)])] [(9,spW zwB zwa (zlz zA) (.inl default) zve zvp),(4,spW zwp zwi (zly zA) (.inl default) zvA zuM)] []
theorem zGR (zA:Atom→Bool×Bool):zW (zpi zA) (lp (body Tryz.f31) 1):=zK (id:=9) (V:=zwB) (B:=zwa) (W:=zlz zA) (z:=.inl default) (tr:=zve) (m:=zvp)
theorem zGN (zA:Atom→Bool×Bool):zW (zpi zA) (lp (body Tryz.f31) 0):=zK (id:=4) (V:=zwp) (B:=zwi) (W:=zly zA) (z:=.inl default) (tr:=zvA) (m:=zuM)
def zqF (zA:Atom→Bool×Bool) (a:List Term):Wy0 (Bool):=.bn (zjN a) fun r21=>.i (!r21) (.k false) (.bn (zwz zA (a.length+a.length+(Int.ofNat a.length).toNat +Int.toNat 0+1) a a (Int.ofNat a.length) 0) fun r20=>.i (isL r20) (.k (getL r20)) (.k true))
def zk9 (zA:Atom→Bool×Bool) (a:List Term):Bool×Bool:=(zqF zA a).fin default
theorem zEd (zA:Atom→Bool×Bool) (zEi:Sound Tryz.prog base 74 (zkK zA)):Sound Tryz.prog base 31 (zg0 (zk9 zA)):=
 zn (cx':=(zpi zA)) zJ zl zw (zm ⟨zue,zjZ,zkW,zoQ,zEi,trivial⟩) Tryz.call31 Tryz.func31 (c:=body Tryz.f31) (by kernel_rfl) (zh (l:=[lp (body Tryz.f31) 0,lp (body Tryz.f31) 1]) (by kernel_rfl) ⟨zGN zA,zGR zA,trivial⟩) (sg:=⟨[.pure],[]⟩) (A:=zA5) (res:=zyb) (W:=fun x=>zqF zA x.1) (z:=default)
def zKF:Cx ty:=mkCx base 9 [(38,annotation_Compare_spec)] [] [] [] [] []
def zsr (a:List Term) (b:List Term):Wy0 (Bool):=.bn (zsM a b) fun r0=>.k (r0==0)
def ziz (a:List Term) (b:List Term):Bool×Bool:=(zsr a b).fin default
def zxj (r:Bool):ARes ty:=⟨[.pure (.lit (.bool r))],[]⟩
def zBd:AL base (List Term×List Term×Unit):=zf (zg (vSl 42)) (zf (zg (vSl 42)) aNil)
def zpE:Ab.Spec ty:=zk zBd fun x=>((ziz x.1 x.2.1).1,zxj (ziz x.1 x.2.1).2)
theorem zuY:Sound Tryz.prog base 32 zpE:=
 zn (cx':=zKF) zJ zl zw (zm ⟨zEK,trivial⟩) Tryz.call32 Tryz.func32 (c:=body Tryz.f32) (by kernel_rfl) (zh (l:=[]) (by kernel_rfl) trivial) (sg:=⟨[.pure],[]⟩) (A:=zBd) (res:=zxj) (W:=fun x=>zsr x.1 x.2.1) (z:=default)
def zQf:Cx ty:=mkCx base 36 [] [] [] [] [] []
def zBM (v:Value):Wy0 (Bool):=.i (v.Kind==0) (.k (v.Text.toList==(ByteArray.mk #[]).toList)) (.i (v.Kind==1) (.i (v.Int==0) (.k (decide (Int.ofNat v.Text.size≤255))) (.k false)) (.i (v.Kind==2) (.i (v.Int==0) (.k (v.Text.toList==(ByteArray.mk #[]).toList)) (.i (v.Int==1) (.k (v.Text.toList==(ByteArray.mk #[]).toList)) (.k false))) (.k false)))
def zov (v:Value):Bool×Bool:=(zBM v).fin default
def zGB (r:Bool):ARes ty:=⟨[.pure (.lit (.bool r))],[]⟩
def zKp:AL base (Value×Unit):=zf (zg (vAgg 46)) aNil
def zql:Ab.Spec ty:=zk zKp fun x=>((zov x.1).1,zGB (zov x.1).2)
theorem zuD:Sound Tryz.prog base 133 zql:=
 zn (cx':=zQf) zJ zl zw (zm trivial) Tryz.call133 Tryz.func133 (c:=body Tryz.f133) (by kernel_rfl) (zh (l:=[]) (by kernel_rfl) trivial) (sg:=⟨[.pure],[]⟩) (A:=zKp) (res:=zGB) (W:=fun x=>zBM x.1) (z:=default)
def zD2:Cx ty:=mkCx base 27 [(133,zql)] [] [] [] [] []
def znT (w:Weighted) (p1:Value) (p2:Int):Wy0 (Bool):=.bn (zov w.Value) fun r0=>.i (!r0) (.k true) (.i (w.Value.Kind != p1.Kind) (.k true) (.i (p2==0) (.k (w.Value.Int != 1)) (.k false)))
def zgj (w:Weighted) (p1:Value) (p2:Int):Bool×Bool:=(znT w p1 p2).fin default
def zrK (r:Bool):ARes ty:=⟨[.pure (.lit (.bool r))],[]⟩
def ztX:AL base (Weighted×Value×(Int×Unit)×Unit):=zf (zg (vAgg 52)) (zf (zg (zPk 46)) (zf (zg (vBox (ztH (vInt .i64) vNil))) aNil))
def ziq:Ab.Spec ty:=zk ztX fun x=>((zgj x.1 x.2.1 x.2.2.1.1).1,zrK (zgj x.1 x.2.1 x.2.2.1.1).2)
theorem zlc:Sound Tryz.prog base 134 ziq:=
 zn (cx':=zD2) zJ zl zw (zm ⟨zuD,trivial⟩) Tryz.call134 Tryz.func134 (c:=body Tryz.f134) (by kernel_rfl) (zh (l:=[]) (by kernel_rfl) trivial) (sg:=⟨[.pure],[]⟩) (A:=ztX) (res:=zrK) (W:=fun x=>znT x.1 x.2.1 x.2.2.1.1) (z:=default)
abbrev ttTslicesIndexFuncLapiWeightedapiWeightedfi0:=List Weighted×(Value×(Int×Unit)×Unit)×Int×Int×Unit
def zmT (s:List Weighted) (f_0:Value) (f_1:Int) (t7:Int) (t8:Int):Wy ttTslicesIndexFuncLapiWeightedapiWeightedfi0 (Unit) (Int⊕Unit):=.i (decide (t8<t7)) (.i (decide (0≤t8)&&decide (t8<Int.ofNat s.length)) (.bn (zgj (s.getD t8.toNat default) f_0 f_1) fun r0=>.i (r0) (.k (.inl t8)) (.h (s,(f_0,(f_1,()),()),t7,(IntKind.i64.wrap (t8+1)),()) ())) .d) (.k (.inr ()))
def zdP (x:ttTslicesIndexFuncLapiWeightedapiWeightedfi0) (y:Unit):Wy ttTslicesIndexFuncLapiWeightedapiWeightedfi0 (Unit) (Int⊕Unit):=zmT x.1 x.2.1.1 x.2.1.2.1.1 x.2.2.1 x.2.2.2.1
def zmG (n:Nat) (s:List Weighted) (f_0:Value) (f_1:Int) (t7:Int) (t8:Int):Bool×(Int⊕Unit):=zX (zdP) (.inl default) n (s,(f_0,(f_1,()),()),t7,t8,()) ()
def zfZ (r:Int⊕Unit):LTree ty:=.ite (isL r) (.done .ret [.lit (.int .i64 (getL r))] []) (.done (.exit 0) [] [])
def zgk:LL ty ttTslicesIndexFuncLapiWeightedapiWeightedfi0:=za (lSl 52) (za (lFn 134 (za (zAp (zgz (fun x=>(⟨x.1,x.2.1,x.2.2.1⟩:Value)) (fun x=>(x.Kind,x.Int,x.Text,())) (fun _=>rfl) (za (lInt .i64) (za (lInt .i64) (za lStr zH)))) 0) (za (zAp (za (lInt .i64) zH) 0) zH))) (za (lInt .i64) (za (lInt .i64) zH)))
def zgh:BL ty (Unit):=bNil
def zf7 (x:ttTslicesIndexFuncLapiWeightedapiWeightedfi0) (y:Unit):Nat:=(x.1.length+Int.toNat x.2.1.2.1.1+Int.toNat x.2.2.1+Int.toNat x.2.2.2.1+1)
def zgv:Cx ty:=mkCx base 19 [(134,ziq)] [] [(2,[(0,.keep),(1,.keep),(7,.keep),(8,.keep)])] [(2,1,[]),(2,0,[(4,.keep)])] [(2,spW zgk zgh (zdP) (.inl default) zfZ zf7)] []
theorem zmi:zW zgv (lp (body Tryz.f135) 0):=zK (id:=2) (V:=zgk) (B:=zgh) (W:=zdP) (z:=.inl default) (tr:=zfZ) (m:=zf7)
def zgY (s:List Weighted) (f_0:Value) (f_1:Int):Wy0 (Int):=.bn (zmG (s.length+f_1.toNat +(Int.ofNat s.length).toNat +Int.toNat 0+1) s f_0 f_1 (Int.ofNat s.length) 0) fun r2=>.i (isL r2) (.k (getL r2)) (.k (-1:Int))
def zcQ (s:List Weighted) (f_0:Value) (f_1:Int):Bool×Int:=(zgY s f_0 f_1).fin default
def zfV (r:Int):ARes ty:=⟨[.pure (.lit (.int .i64 r))],[]⟩
def zgK:AL base (List Weighted×(Value×(Int×Unit)×Unit)×Unit):=zf (zg (vSl 52)) (zf (zg (vFn 134 (ztH (zPk 46) (ztH (vBox (ztH (vInt .i64) vNil)) vNil)))) aNil)
def zfC:Ab.Spec ty:=zk zgK fun x=>((zcQ x.1 x.2.1.1 x.2.1.2.1.1).1,zfV (zcQ x.1 x.2.1.1 x.2.1.2.1.1).2)
theorem zlH:Sound Tryz.prog base 135 zfC:=
 zn (cx':=zgv) zJ zl zw (zm ⟨zlc,trivial⟩) Tryz.call135 Tryz.func135 (c:=body Tryz.f135) (by kernel_rfl) (zh (l:=[lp (body Tryz.f135) 0]) (by kernel_rfl) ⟨zmi,trivial⟩) (sg:=⟨[.pure],[]⟩) (A:=zgK) (res:=zfV) (W:=fun x=>zgY x.1 x.2.1.1 x.2.1.2.1.1) (z:=default)
def zlC:Cx ty:=mkCx base 9 [(134,ziq),(135,zfC)] [] [] [] [] []
def zdC (s:List Weighted) (f_0:Value) (f_1:Int):Wy0 (Bool):=.bn (zcQ s f_0 f_1) fun r0=>.k (decide (r0≥0))
def zbs (s:List Weighted) (f_0:Value) (f_1:Int):Bool×Bool:=(zdC s f_0 f_1).fin default
def zfc (r:Bool):ARes ty:=⟨[.pure (.lit (.bool r))],[]⟩
def zfK:AL base (List Weighted×(Value×(Int×Unit)×Unit)×Unit):=zf (zg (vSl 52)) (zf (zg (vFn 134 (ztH (zPk 46) (ztH (vBox (ztH (vInt .i64) vNil)) vNil)))) aNil)
def zeT:Ab.Spec ty:=zk zfK fun x=>((zbs x.1 x.2.1.1 x.2.1.2.1.1).1,zfc (zbs x.1 x.2.1.1 x.2.1.2.1.1).2)
theorem zkP:Sound Tryz.prog base 76 zeT:=
 zn (cx':=zlC) zJ zl zw (zm ⟨zlc,zlH,trivial⟩) Tryz.call76 Tryz.func76 (c:=body Tryz.f76) (by kernel_rfl) (zh (l:=[]) (by kernel_rfl) trivial) (sg:=⟨[.pure],[]⟩) (A:=zfK) (res:=zfc) (W:=fun x=>zdC x.1 x.2.1.1 x.2.1.2.1.1) (z:=default)
def zIm:Cx ty:=mkCx base 43 [(76,zeT),(133,zql),(134,ziq)] [] [] [] [] []
def zqp (fn:Int) (items:List Weighted) (op:Int) (bound:Value):Wy0 (Bool):=.i (decide (fn<0)) (.k false) (.i (decide (fn>3)) (.k false) (.i (decide (op<5)) (.k false) (.i (decide (op>10)) (.k false) (.bn (zov bound) fun r3=>.i (!r3) (.k false) (.i (fn==0) (.i (bound.Kind != 0) (.k false) (.bn (zbs items bound fn) fun r0=>.k (!r0))) (.i (fn==1) (.i (bound.Kind != 0) (.k false) (.bn (zbs items bound fn) fun r1=>.k (!r1))) (.bn (zbs items bound fn) fun r2=>.k (!r2))))))))
def ziP (fn:Int) (items:List Weighted) (op:Int) (bound:Value):Bool×Bool:=(zqp fn items op bound).fin default
def zuO (r:Bool):ARes ty:=⟨[.pure (.lit (.bool r))],[]⟩
def zxS:AL base (Int×List Weighted×Int×Value×Unit):=zf (zg (vInt .i64)) (zf (zg (vSl 52)) (zf (zg (vInt .i64)) (zf (zg (vAgg 46)) aNil)))
def znM:Ab.Spec ty:=zk zxS fun x=>((ziP x.1 x.2.1 x.2.2.1 x.2.2.2.1).1,zuO (ziP x.1 x.2.1 x.2.2.1 x.2.2.2.1).2)
theorem zsF:Sound Tryz.prog base 75 znM:=
 zn (cx':=zIm) zJ zl zw (zm ⟨zkP,zuD,zlc,trivial⟩) Tryz.call75 Tryz.func75 (c:=body Tryz.f75) (by kernel_rfl) (zh (l:=[]) (by kernel_rfl) trivial) (sg:=⟨[.pure],[]⟩) (A:=zxS) (res:=zuO) (W:=fun x=>zqp x.1 x.2.1 x.2.2.1 x.2.2.2.1) (z:=default)
def zzU:Cx ty:=mkCx base 7 [] [] [] [] [] []
def zlb (t:Term):Wy0 (Bool):=.k (Int.ofNat t.Factors.length==0)
def zfP (t:Term):Bool×Bool:=(zlb t).fin default
def zoN (r:Bool):ARes ty:=⟨[.pure (.lit (.bool r))],[]⟩
def zpZ:AL base (Term×Unit):=zf (zg (vAgg 42)) aNil
def zfW:Ab.Spec ty:=zk zpZ fun x=>((zfP x.1).1,zoN (zfP x.1).2)
theorem ziY:Sound Tryz.prog base 119 zfW:=
 zn (cx':=zzU) zJ zl zw (zm trivial) Tryz.call119 Tryz.func119 (c:=body Tryz.f119) (by kernel_rfl) (zh (l:=[]) (by kernel_rfl) trivial) (sg:=⟨[.pure],[]⟩) (A:=zpZ) (res:=zoN) (W:=fun x=>zlb x.1) (z:=default)
abbrev ttTslicesIndexFuncapiAnnotationapiTermhc0:=List Term×Unit×Int×Int×Unit
def znU (s:List Term) (t7:Int) (t8:Int):Wy ttTslicesIndexFuncapiAnnotationapiTermhc0 (Unit) (Int⊕Unit):=.i (decide (t8<t7)) (.i (decide (0≤t8)&&decide (t8<Int.ofNat s.length)) (.i ((zfP (s.getD t8.toNat default)).2) (.k (.inl t8)) (.h (s,(),t7,(IntKind.i64.wrap (t8+1)),()) ())) .d) (.k (.inr ()))
def zec (x:ttTslicesIndexFuncapiAnnotationapiTermhc0) (y:Unit):Wy ttTslicesIndexFuncapiAnnotationapiTermhc0 (Unit) (Int⊕Unit):=znU x.1 x.2.2.1 x.2.2.2.1
def znD (n:Nat) (s:List Term) (t7:Int) (t8:Int):Bool×(Int⊕Unit):=zX (zec) (.inl default) n (s,(),t7,t8,()) ()
def zhd (r:Int⊕Unit):LTree ty:=.ite (isL r) (.done .ret [.lit (.int .i64 (getL r))] []) (.done (.exit 0) [] [])
def zhD:LL ty ttTslicesIndexFuncapiAnnotationapiTermhc0:=za (lSl 42) (za (lFn 119 (zH)) (za (lInt .i64) (za (lInt .i64) zH)))
def zhG:BL ty (Unit):=bNil
def zhk (x:ttTslicesIndexFuncapiAnnotationapiTermhc0) (y:Unit):Nat:=(x.1.length+Int.toNat x.2.2.1+Int.toNat x.2.2.2.1+1)
def zhS:Cx ty:=mkCx base 19 [(119,zfW)] [] [(2,[(0,.keep),(1,.keep),(7,.keep),(8,.keep)])] [(2,1,[]),(2,0,[(4,.keep)])] [(2,spW zhD zhG (zec) (.inl default) zhd zhk)] []
theorem znw:zW zhS (lp (body Tryz.f149) 0):=zK (id:=2) (V:=zhD) (B:=zhG) (W:=zec) (z:=.inl default) (tr:=zhd) (m:=zhk)
def zh1 (s:List Term):Wy0 (Int):=.bn (znD (s.length+(Int.ofNat s.length).toNat +Int.toNat 0+1) s (Int.ofNat s.length) 0) fun r0=>.i (isL r0) (.k (getL r0)) (.k (-1:Int))
def zda (s:List Term):Bool×Int:=(zh1 s).fin default
def zhn (r:Int):ARes ty:=⟨[.pure (.lit (.int .i64 r))],[]⟩
def zh6:AL base (List Term×Unit×Unit):=zf (zg (vSl 42)) (zf (zg (vFn 119 vNil)) aNil)
def zdW:Ab.Spec ty:=zk zh6 fun x=>((zda x.1).1,zhn (zda x.1).2)
theorem zgx:Sound Tryz.prog base 149 zdW:=
 zn (cx':=zhS) zJ zl zw (zm ⟨ziY,trivial⟩) Tryz.call149 Tryz.func149 (c:=body Tryz.f149) (by kernel_rfl) (zh (l:=[lp (body Tryz.f149) 0]) (by kernel_rfl) ⟨znw,trivial⟩) (sg:=⟨[.pure],[]⟩) (A:=zh6) (res:=zhn) (W:=fun x=>zh1 x.1) (z:=default)
def zmS:Cx ty:=mkCx base 9 [(119,zfW),(149,(zL0 zdW zdW))] [] [] [] [] []
def zdY (s:List Term):Wy0 (Bool):=.bn (zda s) fun r0=>.k (decide (r0≥0))
def zcN (s:List Term):Bool×Bool:=(zdY s).fin default
def zf6 (r:Bool):ARes ty:=⟨[.pure (.lit (.bool r))],[]⟩
def zg1:AL base (List Term×Unit×Unit):=zf (zg (vSl 42)) (zf (zg (vFn 119 vNil)) aNil)
def zfJ:Ab.Spec ty:=zk zg1 fun x=>((zcN x.1).1,zf6 (zcN x.1).2)
theorem zlI:Sound Tryz.prog base 105 zfJ:=
 zn (cx':=zmS) zJ zl zw (zm ⟨ziY,(Sound.or (zgx) (zgx)),trivial⟩) Tryz.call105 Tryz.func105 (c:=body Tryz.f105) (by kernel_rfl) (zh (l:=[]) (by kernel_rfl) trivial) (sg:=⟨[.pure],[]⟩) (A:=zg1) (res:=zf6) (W:=fun x=>zdY x.1) (z:=default)
def zC9:Cx ty:=mkCx base 5 [(105,zfJ),(119,zfW)] [] [] [] [] []
def zm4 (a:List Term):Wy0 (Bool):=.bn (zcN a) fun r0=>.k r0
def zej (a:List Term):Bool×Bool:=(zm4 a).fin default
def zqX (r:Bool):ARes ty:=⟨[.pure (.lit (.bool r))],[]⟩
def ztA:AL base (List Term×Unit):=zf (zg (vSl 42)) aNil
def zkQ:Ab.Spec ty:=zk ztA fun x=>((zej x.1).1,zqX (zej x.1).2)
theorem zpn:Sound Tryz.prog base 68 zkQ:=
 zn (cx':=zC9) zJ zl zw (zm ⟨zlI,ziY,trivial⟩) Tryz.call68 Tryz.func68 (c:=body Tryz.f68) (by kernel_rfl) (zh (l:=[]) (by kernel_rfl) trivial) (sg:=⟨[.pure],[]⟩) (A:=ztA) (res:=zqX) (W:=fun x=>zm4 x.1) (z:=default)
def zFa:Cx ty:=mkCx base 14 [] [] [] [] [] []
def znO (a:List Term):Wy0 (Bool):=.i (Int.ofNat a.length==1) (.i (decide ((0:Int)≤(0:Int))&&decide (0<Int.ofNat a.length)) (.k (Int.ofNat (a.getD (Int.toNat 0) default).Factors.length==0)) .d) (.k false)
def zgt (a:List Term):Bool×Bool:=(znO a).fin default
def zr0 (r:Bool):ARes ty:=⟨[.pure (.lit (.bool r))],[]⟩
def zuc:AL base (List Term×Unit):=zf (zg (vSl 42)) aNil
def zlL:Ab.Spec ty:=zk zuc fun x=>((zgt x.1).1,zr0 (zgt x.1).2)
theorem zp8:Sound Tryz.prog base 65 zlL:=
 zn (cx':=zFa) zJ zl zw (zm trivial) Tryz.call65 Tryz.func65 (c:=body Tryz.f65) (by kernel_rfl) (zh (l:=[]) (by kernel_rfl) trivial) (sg:=⟨[.pure],[]⟩) (A:=zuc) (res:=zr0) (W:=fun x=>znO x.1) (z:=default)
def zIR:Cx ty:=mkCx base 42 [(72,zio)] [] [] [] [] []
def zrt (a:List Term):Wy0 (Bool):=.i (Int.ofNat a.length != 1) (.k false) (.i (decide ((0:Int)≤(0:Int))&&decide (0<Int.ofNat a.length)) (.i ((a.getD (Int.toNat 0) default).Coeff != 1) (.k false) (.i (decide ((0:Int)≤(0:Int))&&decide (0<Int.ofNat a.length)) (.i (Int.ofNat (a.getD (Int.toNat 0) default).Factors.length != 1) (.k false) (.i (decide ((0:Int)≤(0:Int))&&decide (0<Int.ofNat a.length)) (.i (decide ((0:Int)≤(0:Int))&&decide (0<Int.ofNat (a.getD (Int.toNat 0) default).Factors.length)) (.i (((a.getD (Int.toNat 0) default).Factors.getD (Int.toNat 0) default).Exp==1) (.i (((a.getD (Int.toNat 0) default).Factors.getD (Int.toNat 0) default).Atom.Kind==2) (.k true) (.bn (zez (Atom.mk ((a.getD (Int.toNat 0) default).Factors.getD (Int.toNat 0) default).Atom.Kind ((a.getD (Int.toNat 0) default).Factors.getD (Int.toNat 0) default).Atom.Row ((a.getD (Int.toNat 0) default).Factors.getD (Int.toNat 0) default).Atom.Args ((a.getD (Int.toNat 0) default).Factors.getD (Int.toNat 0) default).Atom.Func ((a.getD (Int.toNat 0) default).Factors.getD (Int.toNat 0) default).Atom.Items ((a.getD (Int.toNat 0) default).Factors.getD (Int.toNat 0) default).Atom.Op ((a.getD (Int.toNat 0) default).Factors.getD (Int.toNat 0) default).Atom.Bound)) fun r0=>.k r0)) (.k false)) .d) .d)) .d)) .d)
def zjM (a:List Term):Bool×Bool:=(zrt a).fin default
def zv0 (r:Bool):ARes ty:=⟨[.pure (.lit (.bool r))],[]⟩
def zyn:AL base (List Term×Unit):=zf (zg (vSl 42)) aNil
def zow:Ab.Spec ty:=zk zyn fun x=>((zjM x.1).1,zv0 (zjM x.1).2)
theorem zui:Sound Tryz.prog base 64 zow:=
 zn (cx':=zIR) zJ zl zw (zm ⟨zkW,trivial⟩) Tryz.call64 Tryz.func64 (c:=body Tryz.f64) (by kernel_rfl) (zh (l:=[]) (by kernel_rfl) trivial) (sg:=⟨[.pure],[]⟩) (A:=zyn) (res:=zv0) (W:=fun x=>zrt x.1) (z:=default)
def zPu:Cx ty:=mkCx base 11 [] [] [] [] [] []
def zzA (id:RowID):Wy0 (Bool):=.i (decide (id.Table≥1)) (.k (decide (id.Seq≥1))) (.k false)
def znf (id:RowID):Bool×Bool:=(zzA id).fin default
def zEW (r:Bool):ARes ty:=⟨[.pure (.lit (.bool r))],[]⟩
def zH0:AL base (RowID×Unit):=zf (zg (vAgg 25)) aNil
def zo4:Ab.Spec ty:=zk zH0 fun x=>((znf x.1).1,zEW (znf x.1).2)
theorem zsN:Sound Tryz.prog base 69 zo4:=
 zn (cx':=zPu) zJ zl zw (zm trivial) Tryz.call69 Tryz.func69 (c:=body Tryz.f69) (by kernel_rfl) (zh (l:=[]) (by kernel_rfl) trivial) (sg:=⟨[.pure],[]⟩) (A:=zH0) (res:=zEW) (W:=fun x=>zzA x.1) (z:=default)
abbrev ttTslicesIsSortedFuncLapiWeightedapiWeighted0:=List Weighted×Unit×Int×Unit
def zdQ (x_:List Weighted) (i:Int):Wy ttTslicesIsSortedFuncLapiWeightedapiWeighted0 (Unit) (Bool⊕Unit):=.i (decide (i>0)) (.i (decide (0≤i)&&decide (i<Int.ofNat x_.length)) (.i (decide (0≤IntKind.i64.wrap (i - 1))&&decide (IntKind.i64.wrap (i - 1)<Int.ofNat x_.length)) (.bn (zbc (x_.getD i.toNat default) (x_.getD (IntKind.i64.wrap (i - 1)).toNat default)) fun r0=>.i (decide (r0<0)) (.k (.inl false)) (.h (x_,(),(IntKind.i64.wrap (i - 1)),()) ())) .d) .d) (.k (.inr ()))
def zdM (x:ttTslicesIsSortedFuncLapiWeightedapiWeighted0) (y:Unit):Wy ttTslicesIsSortedFuncLapiWeightedapiWeighted0 (Unit) (Bool⊕Unit):=zdQ x.1 x.2.2.1
def zdO (n:Nat) (x_:List Weighted) (i:Int):Bool×(Bool⊕Unit):=zX (zdM) (.inl default) n (x_,(),i,()) ()
def zga (r:Bool⊕Unit):LTree ty:=.ite (isL r) (.done .ret [.lit (.bool (getL r))] []) (.done (.exit 0) [] [])
def zgi:LL ty ttTslicesIsSortedFuncLapiWeightedapiWeighted0:=za (lSl 52) (za (lFn 85 (zH)) (za (lInt .i64) zH))
def zgw:BL ty (Unit):=bNil
def zgq:Cx ty:=mkCx base 25 [(85,annotation_compareItems_spec)] [] [(2,[(0,.keep),(1,.keep),(5,.keep)])] [(2,1,[]),(2,0,[(4,.keep)])] [(2,spW zgi zgw (zdM) (.inl default) zga fun x y=>(x.1.length+Int.toNat x.2.2.1+1))] []
theorem zmx:zW zgq (lp (body Tryz.f132) 0):=zK (id:=2) (V:=zgi) (B:=zgw) (W:=zdM) (z:=.inl default) (tr:=zga) (m:=fun x y=>(x.1.length+Int.toNat x.2.2.1+1))
def zdZ (x_:List Weighted):Wy0 (Bool):=.bn (zdO (x_.length+(IntKind.i64.wrap (Int.ofNat x_.length - 1)).toNat +1) x_ (IntKind.i64.wrap (Int.ofNat x_.length - 1))) fun r2=>.i (isL r2) (.k (getL r2)) (.k true)
def zbX (x_:List Weighted):Bool×Bool:=(zdZ x_).fin default
def zfU (r:Bool):ARes ty:=⟨[.pure (.lit (.bool r))],[]⟩
def zg5:AL base (List Weighted×Unit×Unit):=zf (zg (vSl 52)) (zf (zg (vFn 85 vNil)) aNil)
def zfB:Ab.Spec ty:=zk zg5 fun x=>((zbX x.1).1,zfU (zbX x.1).2)
theorem zlB:Sound Tryz.prog base 132 zfB:=
 zn (cx':=zgq) zJ zl zw (zm ⟨zgA,trivial⟩) Tryz.call132 Tryz.func132 (c:=body Tryz.f132) (by kernel_rfl) (zh (l:=[lp (body Tryz.f132) 0]) (by kernel_rfl) ⟨zmx,trivial⟩) (sg:=⟨[.pure],[]⟩) (A:=zg5) (res:=zfU) (W:=fun x=>zdZ x.1) (z:=default)
def zct (zc:List Weighted→Bool×Bool) (zb:List (List Term)→Bool×Bool) (ze:List Term→Bool×Bool) (zd:Weighted→Bool×Bool):Cx ty:=mkCx base 149 [(32,zpE),(64,zow),(65,zlL),(68,zkQ),(69,zo4),(75,znM),(76,(zcm zc)),(85,annotation_compareItems_spec),(129,(zb1 zb)),(130,(zcX ze)),(131,(zcY zd)),(132,zfB)] [] [] [] [] []
def zbR (zc:List Weighted→Bool×Bool) (zb:List (List Term)→Bool×Bool) (ze:List Term→Bool×Bool) (zd:Weighted→Bool×Bool) (x_:Atom):Wy0 (Bool):=.i (x_.Kind==0) (.i (x_.Func != 0) (.k false) (.i (Int.ofNat x_.Items.length != 0) (.k false) (.i (x_.Op != 0) (.k false) (.i (!(x_.Bound.Kind==0&&(x_.Bound.Int==0&&(x_.Bound.Text.toList==(ByteArray.mk #[]).toList&&true)))) (.k false) (.bn (zb x_.Args) fun r1=>.i (r1) (.k false) (.bn (znf x_.Row) fun r0=>.i (r0) (.k (Int.ofNat x_.Args.length==0)) (.k false))))))) (.i (x_.Kind==1) (.i (x_.Func != 0) (.k false) (.i (Int.ofNat x_.Items.length != 0) (.k false) (.i (x_.Op != 0) (.k false) (.i (!(x_.Bound.Kind==0&&(x_.Bound.Int==0&&(x_.Bound.Text.toList==(ByteArray.mk #[]).toList&&true)))) (.k false) (.i (!(x_.Row.Table==0&&(x_.Row.Seq==0&&true))) (.k false) (.bn (zb x_.Args) fun r3=>.i (r3) (.k false) (.i (Int.ofNat x_.Args.length==2) (.i (decide ((0:Int)≤(0:Int))&&decide (0<Int.ofNat x_.Args.length)) (.i (decide ((0:Int)≤(1:Int))&&decide (1<Int.ofNat x_.Args.length)) (.bn (ziz (x_.Args.getD (Int.toNat 0) default) (x_.Args.getD (Int.toNat 1) default)) fun r2=>.k (!r2)) .d) .d) (.k false)))))))) (.i (x_.Kind==2) (.i (x_.Func != 0) (.k false) (.i (Int.ofNat x_.Items.length != 0) (.k false) (.i (x_.Op != 0) (.k false) (.i (!(x_.Bound.Kind==0&&(x_.Bound.Int==0&&(x_.Bound.Text.toList==(ByteArray.mk #[]).toList&&true)))) (.k false) (.i (!(x_.Row.Table==0&&(x_.Row.Seq==0&&true))) (.k false) (.bn (zb x_.Args) fun r6=>.i (r6) (.k false) (.i (Int.ofNat x_.Args.length==1) (.i (decide ((0:Int)≤(0:Int))&&decide (0<Int.ofNat x_.Args.length)) (.bn (zgt (x_.Args.getD (Int.toNat 0) default)) fun r5=>.i (!r5) (.i (decide ((0:Int)≤(0:Int))&&decide (0<Int.ofNat x_.Args.length)) (.bn (zjM (x_.Args.getD (Int.toNat 0) default)) fun r4=>.k (!r4)) .d) (.k false)) .d) (.k false)))))))) (.i (x_.Kind==3) (.i (x_.Func != 0) (.k false) (.i (Int.ofNat x_.Items.length != 0) (.k false) (.i (x_.Op != 0) (.k false) (.i (!(x_.Bound.Kind==0&&(x_.Bound.Int==0&&(x_.Bound.Text.toList==(ByteArray.mk #[]).toList&&true)))) (.k false) (.i (!(x_.Row.Table==0&&(x_.Row.Seq==0&&true))) (.k false) (.bn (zb x_.Args) fun r8=>.i (r8) (.k false) (.i (Int.ofNat x_.Args.length==1) (.i (decide ((0:Int)≤(0:Int))&&decide (0<Int.ofNat x_.Args.length)) (.bn (zej (x_.Args.getD (Int.toNat 0) default)) fun r7=>.k (!r7)) .d) (.k false)))))))) (.i (x_.Kind==4) (.i (!(x_.Row.Table==0&&(x_.Row.Seq==0&&true))) (.k false) (.bn (zb x_.Args) fun r12=>.i (r12) (.k false) (.bn (zc x_.Items) fun r11=>.i (Int.ofNat x_.Args.length==0) (.i (decide (Int.ofNat x_.Items.length>0)) (.i (!r11) (.bn (zbX x_.Items) fun r10=>.i (r10) (.bn (ziP x_.Func x_.Items x_.Op x_.Bound) fun r9=>.k r9) (.k false)) (.k false)) (.k false)) (.k false)))) (.i (x_.Func != 0) (.k false) (.i (Int.ofNat x_.Items.length != 0) (.k false) (.i (x_.Op != 0) (.k false) (.i (!(x_.Bound.Kind==0&&(x_.Bound.Int==0&&(x_.Bound.Text.toList==(ByteArray.mk #[]).toList&&true)))) (.k false) (.i (!(x_.Row.Table==0&&(x_.Row.Seq==0&&true))) (.k false) (.bn (zb x_.Args) fun r14=>.i (r14) (.k false) (.k false)))))))))))
def zii (zc:List Weighted→Bool×Bool) (zb:List (List Term)→Bool×Bool) (ze:List Term→Bool×Bool) (zd:Weighted→Bool×Bool) (x_:Atom):Bool×Bool:=(zbR zc zb ze zd x_).fin default
theorem zAJ (zc:List Weighted→Bool×Bool) (zb:List (List Term)→Bool×Bool) (ze:List Term→Bool×Bool) (zd:Weighted→Bool×Bool) (v_Row:RowID) (v_Args:List (List Term)) (v_Func:Int) (v_Items:List Weighted) (v_Op:Int) (v_Bound:Value)  :zit (zct zc zb ze zd) Tryz.f74 (body Tryz.f74) ⟨[.pure],[]⟩ [.pure (.agg (base.enc 48 (Atom.mk (Int.ofNat 0) v_Row v_Args v_Func v_Items v_Op v_Bound)))]=(zbR zc zb ze zd (Atom.mk (Int.ofNat 0) v_Row v_Args v_Func v_Items v_Op v_Bound)).ev noH (fun r=>some (zca r)) none:=by kernel_rfl
theorem zAv (zc:List Weighted→Bool×Bool) (zb:List (List Term)→Bool×Bool) (ze:List Term→Bool×Bool) (zd:Weighted→Bool×Bool) (v_Row:RowID) (v_Args:List (List Term)) (v_Func:Int) (v_Items:List Weighted) (v_Op:Int) (v_Bound:Value)  :zit (zct zc zb ze zd) Tryz.f74 (body Tryz.f74) ⟨[.pure],[]⟩ [.pure (.agg (base.enc 48 (Atom.mk (Int.ofNat 1) v_Row v_Args v_Func v_Items v_Op v_Bound)))]=(zbR zc zb ze zd (Atom.mk (Int.ofNat 1) v_Row v_Args v_Func v_Items v_Op v_Bound)).ev noH (fun r=>some (zca r)) none:=by kernel_rfl
theorem zz8 (zc:List Weighted→Bool×Bool) (zb:List (List Term)→Bool×Bool) (ze:List Term→Bool×Bool) (zd:Weighted→Bool×Bool) (v_Row:RowID) (v_Args:List (List Term)) (v_Func:Int) (v_Items:List Weighted) (v_Op:Int) (v_Bound:Value)  :zit (zct zc zb ze zd) Tryz.f74 (body Tryz.f74) ⟨[.pure],[]⟩ [.pure (.agg (base.enc 48 (Atom.mk (Int.ofNat 2) v_Row v_Args v_Func v_Items v_Op v_Bound)))]=(zbR zc zb ze zd (Atom.mk (Int.ofNat 2) v_Row v_Args v_Func v_Items v_Op v_Bound)).ev noH (fun r=>some (zca r)) none:=by kernel_rfl
theorem zz3 (zc:List Weighted→Bool×Bool) (zb:List (List Term)→Bool×Bool) (ze:List Term→Bool×Bool) (zd:Weighted→Bool×Bool) (v_Row:RowID) (v_Args:List (List Term)) (v_Func:Int) (v_Items:List Weighted) (v_Op:Int) (v_Bound:Value)  :zit (zct zc zb ze zd) Tryz.f74 (body Tryz.f74) ⟨[.pure],[]⟩ [.pure (.agg (base.enc 48 (Atom.mk (Int.ofNat 3) v_Row v_Args v_Func v_Items v_Op v_Bound)))]=(zbR zc zb ze zd (Atom.mk (Int.ofNat 3) v_Row v_Args v_Func v_Items v_Op v_Bound)).ev noH (fun r=>some (zca r)) none:=by kernel_rfl
theorem zA9 (zc:List Weighted→Bool×Bool) (zb:List (List Term)→Bool×Bool) (ze:List Term→Bool×Bool) (zd:Weighted→Bool×Bool) (v_Row:RowID) (v_Args:List (List Term)) (v_Func:Int) (v_Items:List Weighted) (v_Op:Int) (v_Bound:Value)  :zit (zct zc zb ze zd) Tryz.f74 (body Tryz.f74) ⟨[.pure],[]⟩ [.pure (.agg (base.enc 48 (Atom.mk (Int.ofNat 4) v_Row v_Args v_Func v_Items v_Op v_Bound)))]=(zbR zc zb ze zd (Atom.mk (Int.ofNat 4) v_Row v_Args v_Func v_Items v_Op v_Bound)).ev noH (fun r=>some (zca r)) none:=by kernel_rfl
theorem zAH (zc:List Weighted→Bool×Bool) (zb:List (List Term)→Bool×Bool) (ze:List Term→Bool×Bool) (zd:Weighted→Bool×Bool) (n:Nat) (v_Row:RowID) (v_Args:List (List Term)) (v_Func:Int) (v_Items:List Weighted) (v_Op:Int) (v_Bound:Value)  :zit (zct zc zb ze zd) Tryz.f74 (body Tryz.f74) ⟨[.pure],[]⟩ [.pure (.agg (base.enc 48 (Atom.mk (Int.ofNat (n+5)) v_Row v_Args v_Func v_Items v_Op v_Bound)))]=(zbR zc zb ze zd (Atom.mk (Int.ofNat (n+5)) v_Row v_Args v_Func v_Items v_Op v_Bound)).ev noH (fun r=>some (zca r)) none:=by kernel_rfl
theorem zAu (zc:List Weighted→Bool×Bool) (zb:List (List Term)→Bool×Bool) (ze:List Term→Bool×Bool) (zd:Weighted→Bool×Bool) (n:Nat) (v_Row:RowID) (v_Args:List (List Term)) (v_Func:Int) (v_Items:List Weighted) (v_Op:Int) (v_Bound:Value)  :zit (zct zc zb ze zd) Tryz.f74 (body Tryz.f74) ⟨[.pure],[]⟩ [.pure (.agg (base.enc 48 (Atom.mk (Int.negSucc n) v_Row v_Args v_Func v_Items v_Op v_Bound)))]=(zbR zc zb ze zd (Atom.mk (Int.negSucc n) v_Row v_Args v_Func v_Items v_Op v_Bound)).ev noH (fun r=>some (zca r)) none:=by kernel_rfl
theorem zCb (zc:List Weighted→Bool×Bool) (zb:List (List Term)→Bool×Bool) (ze:List Term→Bool×Bool) (zd:Weighted→Bool×Bool) (x_:Atom):zit (zct zc zb ze zd) Tryz.f74 (body Tryz.f74) ⟨[.pure],[]⟩ [.pure (.agg (base.enc 48 x_))]=(zbR zc zb ze zd x_).ev noH (fun r=>some (zca r)) none:=by
 obtain ⟨v_Kind,v_Row,v_Args,v_Func,v_Items,v_Op,v_Bound⟩:=x_
 match v_Kind with
 | .ofNat 0=>exact zAJ zc zb ze zd v_Row v_Args v_Func v_Items v_Op v_Bound 
 | .ofNat 1=>exact zAv zc zb ze zd v_Row v_Args v_Func v_Items v_Op v_Bound 
 | .ofNat 2=>exact zz8 zc zb ze zd v_Row v_Args v_Func v_Items v_Op v_Bound 
 | .ofNat 3=>exact zz3 zc zb ze zd v_Row v_Args v_Func v_Items v_Op v_Bound 
 | .ofNat 4=>exact zA9 zc zb ze zd v_Row v_Args v_Func v_Items v_Op v_Bound 
 | .ofNat (n+5)=>exact zAH zc zb ze zd n v_Row v_Args v_Func v_Items v_Op v_Bound 
 | .negSucc n=>exact zAu zc zb ze zd n v_Row v_Args v_Func v_Items v_Op v_Bound 
theorem zzJ (zc:List Weighted→Bool×Bool) (zb:List (List Term)→Bool×Bool) (ze:List Term→Bool×Bool) (zd:Weighted→Bool×Bool) (zli:Sound Tryz.prog base 76 (zcm zc)) (zks:Sound Tryz.prog base 129 (zb1 zb)) (zeZ:Sound Tryz.prog base 130 (zcX ze)) (zeW:Sound Tryz.prog base 131 (zcY zd)):Sound Tryz.prog base 74 (zkK (zii zc zb ze zd)):=
 zn (cx':=(zct zc zb ze zd)) zJ zl zw (zm ⟨zuY,zui,zp8,zpn,zsN,zsF,zli,zgA,zks,zeZ,zeW,zlB,trivial⟩) Tryz.call74 Tryz.func74 (c:=body Tryz.f74) (by kernel_rfl) (zh (l:=[]) (by kernel_rfl) trivial) (sg:=⟨[.pure],[]⟩) (A:=zvd) (res:=zca) (W:=fun x=>zbR zc zb ze zd x.1) (z:=default) (fun x=>zCb zc zb ze zd x.1) (fun _=>by kernel_rfl)
def zzv (zbr:List Term→Bool×Bool):Cx ty:=mkCx base 11 [(31,(zg0 zbr))] [] [] [] [] []
def zkU (zbr:List Term→Bool×Bool) (a:List Term):Wy0 (Bool):=.bn (zbr a) fun r0=>.i (!r0) (.k true) (.k (Int.ofNat a.length==0))
def ziW (zbr:List Term→Bool×Bool) (a:List Term):Bool×Bool:=(zkU zbr a).fin default
theorem zwN (zbr:List Term→Bool×Bool) (zqj:Sound Tryz.prog base 31 (zg0 zbr)):Sound Tryz.prog base 130 (zcX (ziW zbr)):=
 zn (cx':=(zzv zbr)) zJ zl zw (zm ⟨zqj,trivial⟩) Tryz.call130 Tryz.func130 (c:=body Tryz.f130) (by kernel_rfl) (zh (l:=[]) (by kernel_rfl) trivial) (sg:=⟨[.pure],[]⟩) (A:=zrI) (res:=zqh) (W:=fun x=>zkU zbr x.1) (z:=default)
def zzg (zbr:List Term→Bool×Bool):Cx ty:=mkCx base 13 [(31,(zg0 zbr))] [] [] [] [] []
def zkV (zbr:List Term→Bool×Bool) (w:Weighted):Wy0 (Bool):=.bn (zbr w.Ann) fun r0=>.i (!r0) (.k true) (.k (Int.ofNat w.Ann.length==0))
def ziT (zbr:List Term→Bool×Bool) (w:Weighted):Bool×Bool:=(zkV zbr w).fin default
theorem zwQ (zbr:List Term→Bool×Bool) (zqj:Sound Tryz.prog base 31 (zg0 zbr)):Sound Tryz.prog base 131 (zcY (ziT zbr)):=
 zn (cx':=(zzg zbr)) zJ zl zw (zm ⟨zqj,trivial⟩) Tryz.call131 Tryz.func131 (c:=body Tryz.f131) (by kernel_rfl) (zh (l:=[]) (by kernel_rfl) trivial) (sg:=⟨[.pure],[]⟩) (A:=zrJ) (res:=zp9) (W:=fun x=>zkV zbr x.1) (z:=default)
def zj3 (ze:List Term→Bool×Bool) (zU:List (List Term)→Bool×Int):Cx ty:=mkCx base 9 [(130,(zcX ze)),(163,(zcd zU))] [] [] [] [] []
def zcT (ze:List Term→Bool×Bool) (zU:List (List Term)→Bool×Int) (s:List (List Term)):Wy0 (Bool):=.bn (zU s) fun r0=>.k (decide (r0≥0))
def zbZ (ze:List Term→Bool×Bool) (zU:List (List Term)→Bool×Int) (s:List (List Term)):Bool×Bool:=(zcT ze zU s).fin default
theorem zi8 (ze:List Term→Bool×Bool) (zU:List (List Term)→Bool×Int) (zeZ:Sound Tryz.prog base 130 (zcX ze)) (zkZ:Sound Tryz.prog base 163 (zcd zU)):Sound Tryz.prog base 129 (zb1 (zbZ ze zU)):=
 zn (cx':=(zj3 ze zU)) zJ zl zw (zm ⟨zeZ,zkZ,trivial⟩) Tryz.call129 Tryz.func129 (c:=body Tryz.f129) (by kernel_rfl) (zh (l:=[]) (by kernel_rfl) trivial) (sg:=⟨[.pure],[]⟩) (A:=zeQ) (res:=zeu) (W:=fun x=>zcT ze zU x.1) (z:=default)
def zk0 (zd:Weighted→Bool×Bool) (zZ:List Weighted→Bool×Int):Cx ty:=mkCx base 9 [(131,(zcY zd)),(135,(zcz zZ))] [] [] [] [] []
def zdg (zd:Weighted→Bool×Bool) (zZ:List Weighted→Bool×Int) (s:List Weighted):Wy0 (Bool):=.bn (zZ s) fun r0=>.k (decide (r0≥0))
def zcj (zd:Weighted→Bool×Bool) (zZ:List Weighted→Bool×Int) (s:List Weighted):Bool×Bool:=(zdg zd zZ s).fin default
theorem zkp (zd:Weighted→Bool×Bool) (zZ:List Weighted→Bool×Int) (zeW:Sound Tryz.prog base 131 (zcY zd)) (zmv:Sound Tryz.prog base 135 (zcz zZ)):Sound Tryz.prog base 76 (zcm (zcj zd zZ)):=
 zn (cx':=(zk0 zd zZ)) zJ zl zw (zm ⟨zeW,zmv,trivial⟩) Tryz.call76 Tryz.func76 (c:=body Tryz.f76) (by kernel_rfl) (zh (l:=[]) (by kernel_rfl) trivial) (sg:=⟨[.pure],[]⟩) (A:=zfA) (res:=zfb) (W:=fun x=>zdg zd zZ x.1) (z:=default)
abbrev ttTslicesIndexFuncLapiAnnotationapiAnnotationv10:=List (List Term)×Unit×Int×Int×Unit
def zkM (ze:List Term→Bool×Bool) (s:List (List Term)) (t7:Int) (t8:Int):Wy ttTslicesIndexFuncLapiAnnotationapiAnnotationv10 (Unit) (Int⊕Unit):=.i (decide (t8<t7)) (.i (decide (0≤t8)&&decide (t8<Int.ofNat s.length)) (.bn (ze (s.getD t8.toNat default)) fun r0=>.i (r0) (.k (.inl t8)) (.h (s,(),t7,(IntKind.i64.wrap (t8+1)),()) ())) .d) (.k (.inr ()))
def zc5 (ze:List Term→Bool×Bool) (x:ttTslicesIndexFuncLapiAnnotationapiAnnotationv10) (y:Unit):Wy ttTslicesIndexFuncLapiAnnotationapiAnnotationv10 (Unit) (Int⊕Unit):=zkM ze x.1 x.2.2.1 x.2.2.2.1
def zkJ (ze:List Term→Bool×Bool) (n:Nat) (s:List (List Term)) (t7:Int) (t8:Int):Bool×(Int⊕Unit):=zX (zc5 ze) (.inl default) n (s,(),t7,t8,()) ()
def zeA (r:Int⊕Unit):LTree ty:=.ite (isL r) (.done .ret [.lit (.int .i64 (getL r))] []) (.done (.exit 0) [] [])
def zeP:LL ty ttTslicesIndexFuncLapiAnnotationapiAnnotationv10:=za (lSl 23) (za (lFn 130 (zH)) (za (lInt .i64) (za (lInt .i64) zH)))
def zeN:BL ty (Unit):=bNil
def zeE (x:ttTslicesIndexFuncLapiAnnotationapiAnnotationv10) (y:Unit):Nat:=(x.1.length+Int.toNat x.2.2.1+Int.toNat x.2.2.2.1+1)
def zeM (ze:List Term→Bool×Bool):Cx ty:=mkCx base 19 [(130,(zcX ze))] [] [(2,[(0,.keep),(1,.keep),(7,.keep),(8,.keep)])] [(2,1,[]),(2,0,[(4,.keep)])] [(2,spW zeP zeN (zc5 ze) (.inl default) zeA zeE)] []
theorem zkw (ze:List Term→Bool×Bool):zW (zeM ze) (lp (body Tryz.f163) 0):=zK (id:=2) (V:=zeP) (B:=zeN) (W:=zc5 ze) (z:=.inl default) (tr:=zeA) (m:=zeE)
def zeS (ze:List Term→Bool×Bool) (s:List (List Term)):Wy0 (Int):=.bn (zkJ ze (s.length+(Int.ofNat s.length).toNat +Int.toNat 0+1) s (Int.ofNat s.length) 0) fun r2=>.i (isL r2) (.k (getL r2)) (.k (-1:Int))
def zce (ze:List Term→Bool×Bool) (s:List (List Term)):Bool×Int:=(zeS ze s).fin default
theorem zj0 (ze:List Term→Bool×Bool) (zeZ:Sound Tryz.prog base 130 (zcX ze)):Sound Tryz.prog base 163 (zcd (zce ze)):=
 zn (cx':=(zeM ze)) zJ zl zw (zm ⟨zeZ,trivial⟩) Tryz.call163 Tryz.func163 (c:=body Tryz.f163) (by kernel_rfl) (zh (l:=[lp (body Tryz.f163) 0]) (by kernel_rfl) ⟨zkw ze,trivial⟩) (sg:=⟨[.pure],[]⟩) (A:=zfj) (res:=zeR) (W:=fun x=>zeS ze x.1) (z:=default)
abbrev ttTslicesIndexFuncLapiWeightedapiWeightedv20:=List Weighted×Unit×Int×Int×Unit
def zlX (zd:Weighted→Bool×Bool) (s:List Weighted) (t7:Int) (t8:Int):Wy ttTslicesIndexFuncLapiWeightedapiWeightedv20 (Unit) (Int⊕Unit):=.i (decide (t8<t7)) (.i (decide (0≤t8)&&decide (t8<Int.ofNat s.length)) (.bn (zd (s.getD t8.toNat default)) fun r0=>.i (r0) (.k (.inl t8)) (.h (s,(),t7,(IntKind.i64.wrap (t8+1)),()) ())) .d) (.k (.inr ()))
def zdA (zd:Weighted→Bool×Bool) (x:ttTslicesIndexFuncLapiWeightedapiWeightedv20) (y:Unit):Wy ttTslicesIndexFuncLapiWeightedapiWeightedv20 (Unit) (Int⊕Unit):=zlX zd x.1 x.2.2.1 x.2.2.2.1
def zl1 (zd:Weighted→Bool×Bool) (n:Nat) (s:List Weighted) (t7:Int) (t8:Int):Bool×(Int⊕Unit):=zX (zdA zd) (.inl default) n (s,(),t7,t8,()) ()
def zfp (r:Int⊕Unit):LTree ty:=.ite (isL r) (.done .ret [.lit (.int .i64 (getL r))] []) (.done (.exit 0) [] [])
def zfE:LL ty ttTslicesIndexFuncLapiWeightedapiWeightedv20:=za (lSl 52) (za (lFn 131 (zH)) (za (lInt .i64) (za (lInt .i64) zH)))
def zfI:BL ty (Unit):=bNil
def zfi (x:ttTslicesIndexFuncLapiWeightedapiWeightedv20) (y:Unit):Nat:=(x.1.length+Int.toNat x.2.2.1+Int.toNat x.2.2.2.1+1)
def zfF (zd:Weighted→Bool×Bool):Cx ty:=mkCx base 19 [(131,(zcY zd))] [] [(2,[(0,.keep),(1,.keep),(7,.keep),(8,.keep)])] [(2,1,[]),(2,0,[(4,.keep)])] [(2,spW zfE zfI (zdA zd) (.inl default) zfp zfi)] []
theorem zlA (zd:Weighted→Bool×Bool):zW (zfF zd) (lp (body Tryz.f135) 0):=zK (id:=2) (V:=zfE) (B:=zfI) (W:=zdA zd) (z:=.inl default) (tr:=zfp) (m:=zfi)
def zfS (zd:Weighted→Bool×Bool) (s:List Weighted):Wy0 (Int):=.bn (zl1 zd (s.length+(Int.ofNat s.length).toNat +Int.toNat 0+1) s (Int.ofNat s.length) 0) fun r2=>.i (isL r2) (.k (getL r2)) (.k (-1:Int))
def zcD (zd:Weighted→Bool×Bool) (s:List Weighted):Bool×Int:=(zfS zd s).fin default
theorem zk2 (zd:Weighted→Bool×Bool) (zeW:Sound Tryz.prog base 131 (zcY zd)):Sound Tryz.prog base 135 (zcz (zcD zd)):=
 zn (cx':=(zfF zd)) zJ zl zw (zm ⟨zeW,trivial⟩) Tryz.call135 Tryz.func135 (c:=body Tryz.f135) (by kernel_rfl) (zh (l:=[lp (body Tryz.f135) 0]) (by kernel_rfl) ⟨zlA zd,trivial⟩) (sg:=⟨[.pure],[]⟩) (A:=zgH) (res:=zf2) (W:=fun x=>zfS zd x.1) (z:=default)
end Go.Proofs.YtnolcogncjijpaaGreatDoor
end
