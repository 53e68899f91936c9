/- Texts of this claim, joined (the program, its functions in plain words, and what they compute). -/
import Derived.Test.YtljlfiomikifjaaGreatDoorGC1
set_option autoImplicit false
set_option linter.unusedVariables false
set_option linter.unusedSectionVars false
set_option linter.unusedSimpArgs false
set_option maxRecDepth 1000000
set_option maxHeartbeats 0
noncomputable section
namespace Go.Proofs.YtljlfiomikifjaaGreatDoor
open Go Go.Ab
abbrev znx:=Int×Unit×yC×Int×Int×yD×Int×Int×yA×Int×Int×Unit
abbrev ztE:=Int×yC×Int×Int×yD×Int×Int×Factor
abbrev zns:=Int×yC×Int×Int×yD×Int×Int×yE×Int×Int×Unit
abbrev zt3:=Int×yC×Int×Int×yD×Int×Int
abbrev znp:=Int×yC×Int×Int×yD×Int×Int×Unit
abbrev ztv:=Int×yC×Int×Int
abbrev znA:=Int×yC×Int×Int×Unit
def zkD (zw:yC→Bool×Int) (n_:Int) (t12:yC) (t13:Int) (t14:Int) (t25:yD) (t26:Int) (t27:Int) (t33:yA) (t34:Int) (t35:Int) (f:Factor):Wy znx (Factor×Unit) ztE:=.i (decide (t35<t34)) (.i (decide (0≤t35)&&decide (t35<Int.ofNat t33.length)) (.bn (zw (t33.getD t35.toNat default)) fun r0=>.h ((IntKind.i64.wrap (n_+r0)),(),t12,t13,t14,t25,t26,t27,t33,t34,(IntKind.i64.wrap (t35+1)),()) (f,())) .d) (.k (n_,t12,t13,t14,t25,t26,t27,f))
def zvu (zw:yC→Bool×Int) (x:znx) (y:Factor×Unit):Wy znx (Factor×Unit) ztE:=zkD zw x.1 x.2.2.1 x.2.2.2.1 x.2.2.2.2.1 x.2.2.2.2.2.1 x.2.2.2.2.2.2.1 x.2.2.2.2.2.2.2.1 x.2.2.2.2.2.2.2.2.1 x.2.2.2.2.2.2.2.2.2.1 x.2.2.2.2.2.2.2.2.2.2.1 y.1
def zC9 (zw:yC→Bool×Int) (n:Nat) (n_:Int) (t12:yC) (t13:Int) (t14:Int) (t25:yD) (t26:Int) (t27:Int) (t33:yA) (t34:Int) (t35:Int) (f:Factor):Bool×ztE:=zF (zvu zw) default n (n_,(),t12,t13,t14,t25,t26,t27,t33,t34,t35,()) (f,())
def zPj (r:ztE):LTree ty:=.done (.exit 4) [.lit (.int .i64 r.1),.ptr 248 0,.sl 28 r.2.1,.lit (.int .i64 r.2.2.1),.lit (.int .i64 r.2.2.2.1),.sl 69 r.2.2.2.2.1,.lit (.int .i64 r.2.2.2.2.2.1),.lit (.int .i64 r.2.2.2.2.2.2.1)] [.box (base.enc 69 r.2.2.2.2.2.2.2) false]
def zPy:LL ty znx:=za lI64 (za (zeJ 248 0) (za (lSl 28) (za lI64 (za lI64 (za (lSl 69) (za lI64 (za lI64 (za (lSl 23) (za lI64 (za lI64 zn))))))))))
def zQU:BL ty (Factor×Unit):=bBox (zfl (fun x=>(⟨⟨x.1,⟨x.2.1,x.2.2.1⟩,x.2.2.2.1,x.2.2.2.2.1,x.2.2.2.2.2.1,x.2.2.2.2.2.2.1,⟨x.2.2.2.2.2.2.2.1,x.2.2.2.2.2.2.2.2.1,x.2.2.2.2.2.2.2.2.2.1⟩⟩,x.2.2.2.2.2.2.2.2.2.2.1⟩:Factor)) (fun x=>(x.Atom.Kind,x.Atom.Row.Table,x.Atom.Row.Seq,x.Atom.Args,x.Atom.Func,x.Atom.Items,x.Atom.Op,x.Atom.Bound.Kind,x.Atom.Bound.Int,x.Atom.Bound.Text,x.Exp,())) (fun _=>rfl) (za (lInt .i64) (za (lInt .i64) (za (lInt .i64) (za (lSl 23) (za (lInt .i64) (za (lSl 100) (za (lInt .i64) (za (lInt .i64) (za (lInt .i64) (za lStr (za (lInt .i64) zn)))))))))))) false (bNil)
def zj9 (zw:yC→Bool×Int) (n_:Int) (t12:yC) (t13:Int) (t14:Int) (t25:yD) (t26:Int) (t27:Int) (t46:yE) (t47:Int) (t48:Int):Wy zns (Unit) zt3:=.i (decide (t48<t47)) (.i (decide (0≤t48)&&decide (t48<Int.ofNat t46.length)) (.bn (zw (t46.getD t48.toNat default).Ann) fun r2=>.h ((IntKind.i64.wrap (n_+IntKind.i64.wrap (1+r2))),t12,t13,t14,t25,t26,t27,t46,t47,(IntKind.i64.wrap (t48+1)),()) ()) .d) (.k (n_,t12,t13,t14,t25,t26,t27))
def zvH (zw:yC→Bool×Int) (x:zns) (y:Unit):Wy zns (Unit) zt3:=zj9 zw x.1 x.2.1 x.2.2.1 x.2.2.2.1 x.2.2.2.2.1 x.2.2.2.2.2.1 x.2.2.2.2.2.2.1 x.2.2.2.2.2.2.2.1 x.2.2.2.2.2.2.2.2.1 x.2.2.2.2.2.2.2.2.2.1
def zCL (zw:yC→Bool×Int) (n:Nat) (n_:Int) (t12:yC) (t13:Int) (t14:Int) (t25:yD) (t26:Int) (t27:Int) (t46:yE) (t47:Int) (t48:Int):Bool×zt3:=zF (zvH zw) default n (n_,t12,t13,t14,t25,t26,t27,t46,t47,t48,()) ()
def zOZ (r:zt3):LTree ty:=.done (.exit 6) [.lit (.int .i64 r.1),.sl 28 r.2.1,.lit (.int .i64 r.2.2.1),.lit (.int .i64 r.2.2.2.1),.sl 69 r.2.2.2.2.1,.lit (.int .i64 r.2.2.2.2.2.1),.lit (.int .i64 r.2.2.2.2.2.2)] []
def zQN:LL ty zns:=za lI64 (za (lSl 28) (za lI64 (za lI64 (za (lSl 69) (za lI64 (za lI64 (za (lSl 100) (za lI64 (za lI64 zn)))))))))
def zlF (zw:yC→Bool×Int) (n_:Int) (t12:yC) (t13:Int) (t14:Int) (t25:yD) (t26:Int) (t27:Int):Wy znp (Unit) ztv:=.i (decide (t27<t26)) (.i (decide (0≤t27)&&decide (t27<Int.ofNat t25.length)) (.bn (zC9 zw (n_.toNat +t12.length+t13.toNat +t14.toNat +t25.length+t26.toNat +t27.toNat +(t25.getD t27.toNat default).Atom.Args.length+(Int.ofNat (t25.getD t27.toNat default).Atom.Args.length).toNat +Int.toNat 0+(t25.getD t27.toNat default).Atom.Args.length+(t25.getD t27.toNat default).Atom.Items.length+1) n_ t12 t13 t14 t25 t26 t27 (t25.getD t27.toNat default).Atom.Args (Int.ofNat (t25.getD t27.toNat default).Atom.Args.length) 0 (FactorOf.mk (Atom.mk (t25.getD t27.toNat default).Atom.Kind (t25.getD t27.toNat default).Atom.Row (t25.getD t27.toNat default).Atom.Args (t25.getD t27.toNat default).Atom.Func (t25.getD t27.toNat default).Atom.Items (t25.getD t27.toNat default).Atom.Op (t25.getD t27.toNat default).Atom.Bound) (t25.getD t27.toNat default).Exp)) fun r5=>.bn (zCL zw (r5.1.toNat +r5.2.1.length+r5.2.2.1.toNat +r5.2.2.2.1.toNat +r5.2.2.2.2.1.length+r5.2.2.2.2.2.1.toNat +r5.2.2.2.2.2.2.1.toNat +r5.2.2.2.2.2.2.2.Atom.Items.length+(Int.ofNat r5.2.2.2.2.2.2.2.Atom.Items.length).toNat +Int.toNat 0+1) r5.1 r5.2.1 r5.2.2.1 r5.2.2.2.1 r5.2.2.2.2.1 r5.2.2.2.2.2.1 r5.2.2.2.2.2.2.1 r5.2.2.2.2.2.2.2.Atom.Items (Int.ofNat r5.2.2.2.2.2.2.2.Atom.Items.length) 0) fun r4=>.h ((r4.1),(r4.2.1),(r4.2.2.1),(r4.2.2.2.1),(r4.2.2.2.2.1),(r4.2.2.2.2.2.1),(IntKind.i64.wrap (r4.2.2.2.2.2.2+1)),()) ()) .d) (.k (n_,t12,t13,t14))
def zxj (zw:yC→Bool×Int) (x:znp) (y:Unit):Wy znp (Unit) ztv:=zlF zw x.1 x.2.1 x.2.2.1 x.2.2.2.1 x.2.2.2.2.1 x.2.2.2.2.2.1 x.2.2.2.2.2.2.1
def zDB (zw:yC→Bool×Int) (n:Nat) (n_:Int) (t12:yC) (t13:Int) (t14:Int) (t25:yD) (t26:Int) (t27:Int):Bool×ztv:=zF (zxj zw) default n (n_,t12,t13,t14,t25,t26,t27,()) ()
def zQh (r:ztv):LTree ty:=.done (.exit 2) [.lit (.int .i64 r.1),.sl 28 r.2.1,.lit (.int .i64 r.2.2.1),.lit (.int .i64 r.2.2.2)] []
def zSq:LL ty znp:=za lI64 (za (lSl 28) (za lI64 (za lI64 (za (lSl 69) (za lI64 (za lI64 zn))))))
def zk4 (zw:yC→Bool×Int) (n_:Int) (t12:yC) (t13:Int) (t14:Int):Wy znA (Unit) (Int):=.i (decide (t14<t13)) (.i (decide (0≤t14)&&decide (t14<Int.ofNat t12.length)) (.bn (zDB zw ((IntKind.i64.wrap (n_+IntKind.i64.wrap (1+Int.ofNat (t12.getD t14.toNat default).Factors.length))).toNat +t12.length+t13.toNat +t14.toNat +(t12.getD t14.toNat default).Factors.length+(Int.ofNat (t12.getD t14.toNat default).Factors.length).toNat +Int.toNat 0+1) (IntKind.i64.wrap (n_+IntKind.i64.wrap (1+Int.ofNat (t12.getD t14.toNat default).Factors.length))) t12 t13 t14 (t12.getD t14.toNat default).Factors (Int.ofNat (t12.getD t14.toNat default).Factors.length) 0) fun r8=>.h ((r8.1),(r8.2.1),(r8.2.2.1),(IntKind.i64.wrap (r8.2.2.2+1)),()) ()) .d) (.k n_)
def zw4 (zw:yC→Bool×Int) (x:znA) (y:Unit):Wy znA (Unit) (Int):=zk4 zw x.1 x.2.1 x.2.2.1 x.2.2.2.1
def zEf (zw:yC→Bool×Int) (n:Nat) (n_:Int) (t12:yC) (t13:Int) (t14:Int):Bool×Int:=zF (zw4 zw) default n (n_,t12,t13,t14,()) ()
def zQr (r:Int):LTree ty:=.done (.exit 0) [.lit (.int .i64 r)] []
def zRO:LL ty znA:=za lI64 (za (lSl 28) (za lI64 (za lI64 zn)))
def zOl (x:znx) (y:Factor×Unit):Nat:=(Int.toNat x.1+x.2.2.1.length+Int.toNat x.2.2.2.1+Int.toNat x.2.2.2.2.1+x.2.2.2.2.2.1.length+Int.toNat x.2.2.2.2.2.2.1+Int.toNat x.2.2.2.2.2.2.2.1+x.2.2.2.2.2.2.2.2.1.length+Int.toNat x.2.2.2.2.2.2.2.2.2.1+Int.toNat x.2.2.2.2.2.2.2.2.2.2.1+y.1.Atom.Args.length+y.1.Atom.Items.length+1)
def zOS (x:zns) (y:Unit):Nat:=(Int.toNat x.1+x.2.1.length+Int.toNat x.2.2.1+Int.toNat x.2.2.2.1+x.2.2.2.2.1.length+Int.toNat x.2.2.2.2.2.1+Int.toNat x.2.2.2.2.2.2.1+x.2.2.2.2.2.2.2.1.length+Int.toNat x.2.2.2.2.2.2.2.2.1+Int.toNat x.2.2.2.2.2.2.2.2.2.1+1)
def zP8 (x:znp) (y:Unit):Nat:=(Int.toNat x.1+x.2.1.length+Int.toNat x.2.2.1+Int.toNat x.2.2.2.1+x.2.2.2.2.1.length+Int.toNat x.2.2.2.2.2.1+Int.toNat x.2.2.2.2.2.2.1+1)
def zQZ (x:znA) (y:Unit):Nat:=(Int.toNat x.1+x.2.1.length+Int.toNat x.2.2.1+Int.toNat x.2.2.2.1+1)
def zlC (zw:yC→Bool×Int):Cx ty:=mkCx base 62 [(115,(zoI zw))] [] [(3,(kpL [3,12,13,14])),(7,(kpL [3,12,13,14,25,26,27])),(10,(kpL [3,7,12,13,14,25,26,27,33,34,35])),(15,(kpL [3,12,13,14,25,26,27,46,47,48]))] [(3,1,(kpL [3])),(7,3,(kpL [3,12,13,14])),(10,5,(kpL [3,7,12,13,14,25,26,27])),(15,7,(kpL [3,12,13,14,25,26,27]))] [(10,spW zPy zQU (zvu zw) default zPj zOl),(15,spW zQN z6c (zvH zw) default zOZ zOS),(7,spW zSq z6c (zxj zw) default zQh zP8),(3,spW zRO z6c (zw4 zw) default zQr zQZ)] []
theorem zOd (zw:yC→Bool×Int):zK (zlC zw) (lp (body Tryz.f115) 2):=zu (id:=10) (hl:=rfl)
theorem zOy (zw:yC→Bool×Int):zK (zlC zw) (lp (body Tryz.f115) 3):=zu (id:=15) (hl:=rfl)
theorem zQV (zw:yC→Bool×Int):zK (zlC zw) (lp (body Tryz.f115) 1):=zu (id:=7) (hl:=rfl)
theorem zPw (zw:yC→Bool×Int):zK (zlC zw) (lp (body Tryz.f115) 0):=zu (id:=3) (hl:=rfl)
def zE4 (zw:yC→Bool×Int) (a:yC):Wy0 (Int):=.bn (zEf zw (Int.toNat 0+a.length+(Int.ofNat a.length).toNat +Int.toNat 0+1) 0 a (Int.ofNat a.length) 0) fun r10=>.k r10
def zuR (zw:yC→Bool×Int) (a:yC):Bool×Int:=(zE4 zw a).fin default
theorem zM1 (zw:yC→Bool×Int) (zTA:SdP 115 (zoI zw)):SdP 115 (zoI (zuR zw)):=
 sW (cx':=(zlC zw)) zr zi zk (zj ⟨zTA,trivial⟩) Tryz.call115 Tryz.func115 (c:=body Tryz.f115) (lOK (aC (zPw zw) (aC (zQV zw) (aC (zOd zw) (aC (zOy zw) aN)))))
def z8a:Nat→(yC→Bool×Int)
 | 0=>fun _=>(false,default)
 | n+1=>zuR (z8a n)
def zlH (n:Nat):yC→Bool×Int:=z8a n
theorem zR2 (n:Nat):zlH (n+1)=zuR (zlH n):=rfl
theorem z14:∀ n,SdP 115 (zoI (zlH n))
 | 0=>z6 Tryz.call115 (fun _=>rfl)
 | n+1=>by
  have ih:=z14 n;exact zM1 _ (ih)
def zEb:yC→Bool×Int:=zlH 1000
def annotation_Size_spec:Ab.Spec ty:=zoI zEb
theorem zQ0:SdP 115 annotation_Size_spec:=(z14 1000)
abbrev zku:=Int×Unit×Int×yC×Int×Int×yD×Int×Int×yA×Int×Int×Unit
abbrev zn3:=Int×Int×yC×Int×Int×yD×Int×Int×Factor
abbrev zkA:=Int×Int×yC×Int×Int×yD×Int×Int×yE×Int×Int×Unit
abbrev znT:=Int×Int×yC×Int×Int×yD×Int×Int
abbrev zkE:=Int×yC×Int×Int×yD×Int×Int×Unit
abbrev znS:=Int×yC×Int×Int
abbrev zkq:=Int×yC×Int×Int×Unit
def zhO (zm:yC→Bool×Int) (n_:Int) (inner:Int) (t13:yC) (t14:Int) (t15:Int) (t20:yD) (t21:Int) (t22:Int) (t32:yA) (t33:Int) (t34:Int) (f:Factor):Wy zku (Factor×Unit) zn3:=.i (decide (t34<t33)) (.i (decide (0≤t34)&&decide (t34<Int.ofNat t32.length)) (.bn (zm (t32.getD t34.toNat default)) fun r0=>.h (n_,(),(if r0>inner then r0 else inner),t13,t14,t15,t20,t21,t22,t32,t33,(IntKind.i64.wrap (t34+1)),()) (f,())) .d) (.k (n_,inner,t13,t14,t15,t20,t21,t22,f))
def zro (zm:yC→Bool×Int) (x:zku) (y:Factor×Unit):Wy zku (Factor×Unit) zn3:=zhO zm x.1 x.2.2.1 x.2.2.2.1 x.2.2.2.2.1 x.2.2.2.2.2.1 x.2.2.2.2.2.2.1 x.2.2.2.2.2.2.2.1 x.2.2.2.2.2.2.2.2.1 x.2.2.2.2.2.2.2.2.2.1 x.2.2.2.2.2.2.2.2.2.2.1 x.2.2.2.2.2.2.2.2.2.2.2.1 y.1
def zzM (zm:yC→Bool×Int) (n:Nat) (n_:Int) (inner:Int) (t13:yC) (t14:Int) (t15:Int) (t20:yD) (t21:Int) (t22:Int) (t32:yA) (t33:Int) (t34:Int) (f:Factor):Bool×zn3:=zF (zro zm) default n (n_,(),inner,t13,t14,t15,t20,t21,t22,t32,t33,t34,()) (f,())
def zJW (r:zn3):LTree ty:=.done (.exit 4) [.lit (.int .i64 r.1),.ptr 256 0,.lit (.int .i64 r.2.1),.sl 28 r.2.2.1,.lit (.int .i64 r.2.2.2.1),.lit (.int .i64 r.2.2.2.2.1),.sl 69 r.2.2.2.2.2.1,.lit (.int .i64 r.2.2.2.2.2.2.1),.lit (.int .i64 r.2.2.2.2.2.2.2.1)] [.box (base.enc 69 r.2.2.2.2.2.2.2.2) false]
def zMf:LL ty zku:=za lI64 (za (zeJ 256 0) (za lI64 (za (lSl 28) (za lI64 (za lI64 (za (lSl 69) (za lI64 (za lI64 (za (lSl 23) (za lI64 (za lI64 zn)))))))))))
def zhE (zm:yC→Bool×Int) (n_:Int) (inner:Int) (t13:yC) (t14:Int) (t15:Int) (t20:yD) (t21:Int) (t22:Int) (t45:yE) (t46:Int) (t47:Int):Wy zkA (Unit) znT:=.i (decide (t47<t46)) (.i (decide (0≤t47)&&decide (t47<Int.ofNat t45.length)) (.bn (zm (t45.getD t47.toNat default).Ann) fun r2=>.h (n_,(if r2>inner then r2 else inner),t13,t14,t15,t20,t21,t22,t45,t46,(IntKind.i64.wrap (t47+1)),()) ()) .d) (.k (n_,inner,t13,t14,t15,t20,t21,t22))
def zqI (zm:yC→Bool×Int) (x:zkA) (y:Unit):Wy zkA (Unit) znT:=zhE zm x.1 x.2.1 x.2.2.1 x.2.2.2.1 x.2.2.2.2.1 x.2.2.2.2.2.1 x.2.2.2.2.2.2.1 x.2.2.2.2.2.2.2.1 x.2.2.2.2.2.2.2.2.1 x.2.2.2.2.2.2.2.2.2.1 x.2.2.2.2.2.2.2.2.2.2.1
def zAt (zm:yC→Bool×Int) (n:Nat) (n_:Int) (inner:Int) (t13:yC) (t14:Int) (t15:Int) (t20:yD) (t21:Int) (t22:Int) (t45:yE) (t46:Int) (t47:Int):Bool×znT:=zF (zqI zm) default n (n_,inner,t13,t14,t15,t20,t21,t22,t45,t46,t47,()) ()
def zJq (r:znT):LTree ty:=.done (.exit 6) [.lit (.int .i64 r.1),.lit (.int .i64 r.2.1),.sl 28 r.2.2.1,.lit (.int .i64 r.2.2.2.1),.lit (.int .i64 r.2.2.2.2.1),.sl 69 r.2.2.2.2.2.1,.lit (.int .i64 r.2.2.2.2.2.2.1),.lit (.int .i64 r.2.2.2.2.2.2.2)] []
def zLD:LL ty zkA:=za lI64 (za lI64 (za (lSl 28) (za lI64 (za lI64 (za (lSl 69) (za lI64 (za lI64 (za (lSl 100) (za lI64 (za lI64 zn))))))))))
def ziS (zm:yC→Bool×Int) (n_:Int) (t13:yC) (t14:Int) (t15:Int) (t20:yD) (t21:Int) (t22:Int):Wy zkE (Unit) znS:=.i (decide (t22<t21)) (.i (decide (0≤t22)&&decide (t22<Int.ofNat t20.length)) (.i ((t20.getD t22.toNat default).Atom.Kind==0) (.h (n_,t13,t14,t15,t20,t21,(IntKind.i64.wrap (t22+1)),()) ()) (.bn (zzM zm (n_.toNat +Int.toNat 0+t13.length+t14.toNat +t15.toNat +t20.length+t21.toNat +t22.toNat +(t20.getD t22.toNat default).Atom.Args.length+(Int.ofNat (t20.getD t22.toNat default).Atom.Args.length).toNat +Int.toNat 0+(t20.getD t22.toNat default).Atom.Args.length+(t20.getD t22.toNat default).Atom.Items.length+1) n_ 0 t13 t14 t15 t20 t21 t22 (t20.getD t22.toNat default).Atom.Args (Int.ofNat (t20.getD t22.toNat default).Atom.Args.length) 0 (FactorOf.mk (Atom.mk (t20.getD t22.toNat default).Atom.Kind (t20.getD t22.toNat default).Atom.Row (t20.getD t22.toNat default).Atom.Args (t20.getD t22.toNat default).Atom.Func (t20.getD t22.toNat default).Atom.Items (t20.getD t22.toNat default).Atom.Op (t20.getD t22.toNat default).Atom.Bound) (t20.getD t22.toNat default).Exp)) fun r5=>.bn (zAt zm (r5.1.toNat +r5.2.1.toNat +r5.2.2.1.length+r5.2.2.2.1.toNat +r5.2.2.2.2.1.toNat +r5.2.2.2.2.2.1.length+r5.2.2.2.2.2.2.1.toNat +r5.2.2.2.2.2.2.2.1.toNat +r5.2.2.2.2.2.2.2.2.Atom.Items.length+(Int.ofNat r5.2.2.2.2.2.2.2.2.Atom.Items.length).toNat +Int.toNat 0+1) r5.1 r5.2.1 r5.2.2.1 r5.2.2.2.1 r5.2.2.2.2.1 r5.2.2.2.2.2.1 r5.2.2.2.2.2.2.1 r5.2.2.2.2.2.2.2.1 r5.2.2.2.2.2.2.2.2.Atom.Items (Int.ofNat r5.2.2.2.2.2.2.2.2.Atom.Items.length) 0) fun r4=>.h ((if IntKind.i64.wrap (1+r4.2.1)>r4.1 then IntKind.i64.wrap (1+r4.2.1) else r4.1),(r4.2.2.1),(r4.2.2.2.1),(r4.2.2.2.2.1),(r4.2.2.2.2.2.1),(r4.2.2.2.2.2.2.1),(IntKind.i64.wrap (r4.2.2.2.2.2.2.2+1)),()) ())) .d) (.k (n_,t13,t14,t15))
def zs7 (zm:yC→Bool×Int) (x:zkE) (y:Unit):Wy zkE (Unit) znS:=ziS zm x.1 x.2.1 x.2.2.1 x.2.2.2.1 x.2.2.2.2.1 x.2.2.2.2.2.1 x.2.2.2.2.2.2.1
def zBa (zm:yC→Bool×Int) (n:Nat) (n_:Int) (t13:yC) (t14:Int) (t15:Int) (t20:yD) (t21:Int) (t22:Int):Bool×znS:=zF (zs7 zm) default n (n_,t13,t14,t15,t20,t21,t22,()) ()
def zKE (r:znS):LTree ty:=.done (.exit 2) [.lit (.int .i64 r.1),.sl 28 r.2.1,.lit (.int .i64 r.2.2.1),.lit (.int .i64 r.2.2.2)] []
def zM7:LL ty zkE:=za lI64 (za (lSl 28) (za lI64 (za lI64 (za (lSl 69) (za lI64 (za lI64 zn))))))
def zi0 (zm:yC→Bool×Int) (n_:Int) (t13:yC) (t14:Int) (t15:Int):Wy zkq (Unit) (Int):=.i (decide (t15<t14)) (.i (decide (0≤t15)&&decide (t15<Int.ofNat t13.length)) (.bn (zBa zm (n_.toNat +t13.length+t14.toNat +t15.toNat +(t13.getD t15.toNat default).Factors.length+(Int.ofNat (t13.getD t15.toNat default).Factors.length).toNat +Int.toNat 0+1) n_ t13 t14 t15 (t13.getD t15.toNat default).Factors (Int.ofNat (t13.getD t15.toNat default).Factors.length) 0) fun r8=>.h ((r8.1),(r8.2.1),(r8.2.2.1),(IntKind.i64.wrap (r8.2.2.2+1)),()) ()) .d) (.k n_)
def zst (zm:yC→Bool×Int) (x:zkq) (y:Unit):Wy zkq (Unit) (Int):=zi0 zm x.1 x.2.1 x.2.2.1 x.2.2.2.1
def zA8 (zm:yC→Bool×Int) (n:Nat) (n_:Int) (t13:yC) (t14:Int) (t15:Int):Bool×Int:=zF (zst zm) default n (n_,t13,t14,t15,()) ()
def zM2:LL ty zkq:=za lI64 (za (lSl 28) (za lI64 (za lI64 zn)))
def zJN (x:zku) (y:Factor×Unit):Nat:=(Int.toNat x.1+Int.toNat x.2.2.1+x.2.2.2.1.length+Int.toNat x.2.2.2.2.1+Int.toNat x.2.2.2.2.2.1+x.2.2.2.2.2.2.1.length+Int.toNat x.2.2.2.2.2.2.2.1+Int.toNat x.2.2.2.2.2.2.2.2.1+x.2.2.2.2.2.2.2.2.2.1.length+Int.toNat x.2.2.2.2.2.2.2.2.2.2.1+Int.toNat x.2.2.2.2.2.2.2.2.2.2.2.1+y.1.Atom.Args.length+y.1.Atom.Items.length+1)
def zKj (x:zkA) (y:Unit):Nat:=(Int.toNat x.1+Int.toNat x.2.1+x.2.2.1.length+Int.toNat x.2.2.2.1+Int.toNat x.2.2.2.2.1+x.2.2.2.2.2.1.length+Int.toNat x.2.2.2.2.2.2.1+Int.toNat x.2.2.2.2.2.2.2.1+x.2.2.2.2.2.2.2.2.1.length+Int.toNat x.2.2.2.2.2.2.2.2.2.1+Int.toNat x.2.2.2.2.2.2.2.2.2.2.1+1)
def zLV (x:zkE) (y:Unit):Nat:=(Int.toNat x.1+x.2.1.length+Int.toNat x.2.2.1+Int.toNat x.2.2.2.1+x.2.2.2.2.1.length+Int.toNat x.2.2.2.2.2.1+Int.toNat x.2.2.2.2.2.2.1+1)
def zL6 (x:zkq) (y:Unit):Nat:=(Int.toNat x.1+x.2.1.length+Int.toNat x.2.2.1+Int.toNat x.2.2.2.1+1)
def ziN (zm:yC→Bool×Int):Cx ty:=mkCx base 64 [(114,(zoI zm))] [] [(3,(kpL [3,13,14,15])),(6,(kpL [3,13,14,15,20,21,22])),(11,(kpL [3,7,8,13,14,15,20,21,22,32,33,34])),(16,(kpL [3,8,13,14,15,20,21,22,45,46,47]))] [(3,1,(kpL [3])),(6,3,(kpL [3,13,14,15])),(11,5,(kpL [3,7,8,13,14,15,20,21,22])),(16,7,(kpL [3,8,13,14,15,20,21,22]))] [(11,spW zMf zQU (zro zm) default zJW zJN),(16,spW zLD z6c (zqI zm) default zJq zKj),(6,spW zM7 z6c (zs7 zm) default zKE zLV),(3,spW zM2 z6c (zst zm) default zQr zL6)] []
theorem zJT (zm:yC→Bool×Int):zK (ziN zm) (lp (body Tryz.f114) 2):=zu (id:=11) (hl:=rfl)
theorem zKf (zm:yC→Bool×Int):zK (ziN zm) (lp (body Tryz.f114) 3):=zu (id:=16) (hl:=rfl)
theorem zLK (zm:yC→Bool×Int):zK (ziN zm) (lp (body Tryz.f114) 1):=zu (id:=6) (hl:=rfl)
theorem zLJ (zm:yC→Bool×Int):zK (ziN zm) (lp (body Tryz.f114) 0):=zu (id:=3) (hl:=rfl)
def zBP (zm:yC→Bool×Int) (a:yC):Wy0 (Int):=.bn (zA8 zm (Int.toNat 0+a.length+(Int.ofNat a.length).toNat +Int.toNat 0+1) 0 a (Int.ofNat a.length) 0) fun r10=>.k r10
def zpo (zm:yC→Bool×Int) (a:yC):Bool×Int:=(zBP zm a).fin default
theorem zIg (zm:yC→Bool×Int) (zOx:SdP 114 (zoI zm)):SdP 114 (zoI (zpo zm)):=
 sW (cx':=(ziN zm)) zr zi zk (zj ⟨zOx,trivial⟩) Tryz.call114 Tryz.func114 (c:=body Tryz.f114) (lOK (aC (zLJ zm) (aC (zLK zm) (aC (zJT zm) (aC (zKf zm) aN)))))
def zZL:Nat→(yC→Bool×Int)
 | 0=>fun _=>(false,default)
 | n+1=>zpo (zZL n)
def zf8 (n:Nat):yC→Bool×Int:=zZL n
theorem zMw (n:Nat):zf8 (n+1)=zpo (zf8 n):=rfl
theorem zTv:∀ n,SdP 114 (zoI (zf8 n))
 | 0=>z6 Tryz.call114 (fun _=>rfl)
 | n+1=>by
  have ih:=zTv n;exact zIg _ (ih)
def zzN:yC→Bool×Int:=zf8 1000
def annotation_nesting_spec:Ab.Spec ty:=zoI zzN
theorem zLE:SdP 114 annotation_nesting_spec:=(zTv 1000)
def zHQ:Cx ty:=mkCx base 13 [] [] [] [] [] []
def zzb (f:Factor):Wy0 (Bool):=.i (decide (f.Exp>64)) (.k true) (.k (decide (Int.ofNat f.Atom.Items.length>1024)))
def zf1 (f:Factor):Bool×Bool:=(zzb f).fin default
def zJK:AL base (Factor×Unit):=zd (ze (vAgg 69)) aNil
def ziq:Ab.Spec ty:=zh zJK fun x=>((zf1 x.1).1,zTU (zf1 x.1).2)
theorem zlR:SdP 117 ziq:=
 sW (cx':=zHQ) zr zi zk (zj trivial) Tryz.call117 Tryz.func117 (c:=body Tryz.f117) (lOK aN)
abbrev zc8:=yD×Unit×Int×Int×Unit
def zjh (s:yD) (t7:Int) (t8:Int):Wy zc8 (Unit) (Int⊕Unit):=.i (decide (t8<t7)) (.i (decide (0≤t8)&&decide (t8<Int.ofNat s.length)) (.bn (zf1 (FactorOf.mk (Atom.mk (s.getD t8.toNat default).Atom.Kind (s.getD t8.toNat default).Atom.Row (s.getD t8.toNat default).Atom.Args (s.getD t8.toNat default).Atom.Func (s.getD t8.toNat default).Atom.Items (s.getD t8.toNat default).Atom.Op (s.getD t8.toNat default).Atom.Bound) (s.getD t8.toNat default).Exp)) fun r0=>.i (r0) (.k (.inl t8)) (.h (s,(),t7,(IntKind.i64.wrap (t8+1)),()) ())) .d) (.k (.inr ()))
def zdF (x:zc8) (y:Unit):Wy zc8 (Unit) (Int⊕Unit):=zjh x.1 x.2.2.1 x.2.2.2.1
def zjp (n:Nat) (s:yD) (t7:Int) (t8:Int):Bool×(Int⊕Unit):=zF (zdF) (.inl default) n (s,(),t7,t8,()) ()
def zs2 (r:Int⊕Unit):LTree ty:=.ite (isL r) (.done .ret [.lit (.int .i64 (getL r))] []) (.done (.exit 0) [] [])
def ztR:LL ty zc8:=za (lSl 69) (za (lFn 117 (zn)) (za lI64 (za lI64 zn)))
def zsV (x:zc8) (y:Unit):Nat:=(x.1.length+Int.toNat x.2.2.1+Int.toNat x.2.2.2.1+1)
def zjs:Cx ty:=mkCx base 19 [(117,ziq)] [] [(2,(kpL [0,1,7,8]))] [(2,1,[]),(2,0,(kpL [4]))] [(2,spW ztR z6c (zdF) (.inl default) zs2 zsV)] []
theorem zsW:zK zjs (lp (body Tryz.f103) 0):=zu (id:=2) (hl:=rfl)
def zjG (s:yD):Wy0 (Int):=.bn (zjp (s.length+(Int.ofNat s.length).toNat +Int.toNat 0+1) s (Int.ofNat s.length) 0) fun r2=>.i (isL r2) (.k (getL r2)) (.k (-1:Int))
def zcM (s:yD):Bool×Int:=(zjG s).fin default
def zuD:AL base (yD×Unit×Unit):=zd (ze (vSl 69)) (zd (ze (vFn 117 vNil)) aNil)
def zig:Ab.Spec ty:=zh zuD fun x=>((zcM x.1).1,zN6 (zcM x.1).2)
theorem zrm:SdP 103 zig:=
 sW (cx':=zjs) zr zi zk (zj ⟨zlR,trivial⟩) Tryz.call103 Tryz.func103 (c:=body Tryz.f103) (lOK (aC zsW aN))
def zrb:Cx ty:=mkCx base 9 [(103,zig),(117,ziq)] [] [] [] [] []
def zif (s:yD):Wy0 (Bool):=.bn (zcM s) fun r0=>.k (decide (r0≥0))
def zcq (s:yD):Bool×Bool:=(zif s).fin default
def zgZ:Ab.Spec ty:=zh zuD fun x=>((zcq x.1).1,zTU (zcq x.1).2)
theorem zoA:SdP 49 zgZ:=
 sW (cx':=zrb) zr zi zk (zj ⟨zrm,zlR,trivial⟩) Tryz.call49 Tryz.func49 (c:=body Tryz.f49) (lOK aN)
def zMG:Cx ty:=mkCx base 12 [(49,zgZ),(117,ziq)] [] [] [] [] []
def zBW (t:Term):Wy0 (Bool):=.i (decide (Int.ofNat t.Factors.length>64)) (.k true) (.bn (zcq t.Factors) fun r0=>.k r0)
def zlG (t:Term):Bool×Bool:=(zBW t).fin default
def zPh:AL base (Term×Unit):=zd (ze (vAgg 28)) aNil
def zkN:Ab.Spec ty:=zh zPh fun x=>((zlG x.1).1,zTU (zlG x.1).2)
theorem zoi:SdP 116 zkN:=
 sW (cx':=zMG) zr zi zk (zj ⟨zoA,zlR,trivial⟩) Tryz.call116 Tryz.func116 (c:=body Tryz.f116) (lOK aN)
abbrev zcY:=yC×Unit×Int×Int×Unit
def zsq (s:yC) (t7:Int) (t8:Int):Wy zcY (Unit) (Int⊕Unit):=.i (decide (t8<t7)) (.i (decide (0≤t8)&&decide (t8<Int.ofNat s.length)) (.bn (zlG (s.getD t8.toNat default)) fun r0=>.i (r0) (.k (.inl t8)) (.h (s,(),t7,(IntKind.i64.wrap (t8+1)),()) ())) .d) (.k (.inr ()))
def zi2 (x:zcY) (y:Unit):Wy zcY (Unit) (Int⊕Unit):=zsq x.1 x.2.2.1 x.2.2.2.1
def zsN (n:Nat) (s:yC) (t7:Int) (t8:Int):Bool×(Int⊕Unit):=zF (zi2) (.inl default) n (s,(),t7,t8,()) ()
def zsX:LL ty zcY:=za (lSl 28) (za (lFn 116 (zn)) (za lI64 (za lI64 zn)))
def zrY (x:zcY) (y:Unit):Nat:=(x.1.length+Int.toNat x.2.2.1+Int.toNat x.2.2.2.1+1)
def ziV:Cx ty:=mkCx base 19 [(116,zkN)] [] [(2,(kpL [0,1,7,8]))] [(2,1,[]),(2,0,(kpL [4]))] [(2,spW zsX z6c (zi2) (.inl default) zs2 zrY)] []
theorem zsa:zK ziV (lp (body Tryz.f113) 0):=zu (id:=2) (hl:=rfl)
def zt0 (s:yC):Wy0 (Int):=.bn (zsN (s.length+(Int.ofNat s.length).toNat +Int.toNat 0+1) s (Int.ofNat s.length) 0) fun r2=>.i (isL r2) (.k (getL r2)) (.k (-1:Int))
def zd0 (s:yC):Bool×Int:=(zt0 s).fin default
def ztI:AL base (yC×Unit×Unit):=zd (ze (vSl 28)) (zd (ze (vFn 116 vNil)) aNil)
def zhN:Ab.Spec ty:=zh ztI fun x=>((zd0 x.1).1,zN6 (zd0 x.1).2)
theorem zp4:SdP 113 zhN:=
 sW (cx':=ziV) zr zi zk (zj ⟨zoi,trivial⟩) Tryz.call113 Tryz.func113 (c:=body Tryz.f113) (lOK (aC zsa aN))
def zp7:Cx ty:=mkCx base 9 [(113,zhN),(116,zkN)] [] [] [] [] []
def zh1 (s:yC):Wy0 (Bool):=.bn (zd0 s) fun r0=>.k (decide (r0≥0))
def zci (s:yC):Bool×Bool:=(zh1 s).fin default
def zgF:Ab.Spec ty:=zh ztI fun x=>((zci x.1).1,zTU (zci x.1).2)
theorem zoo:SdP 59 zgF:=
 sW (cx':=zp7) zr zi zk (zj ⟨zp4,zoi,trivial⟩) Tryz.call59 Tryz.func59 (c:=body Tryz.f59) (lOK aN)
def zSM:Cx ty:=mkCx base 19 [(59,zgF),(114,annotation_nesting_spec),(115,annotation_Size_spec),(116,zkN)] [] [] [] [] []
def zE8 (a:yC):Wy0 (Bool):=.i (decide (Int.ofNat a.length>512)) (.k false) (.bn (zzN a) fun r2=>.i (decide (r2>8)) (.k false) (.bn (zEb a) fun r1=>.i (decide (r1>4096)) (.k false) (.bn (zci a) fun r0=>.k (!r0))))
def zlI (a:yC):Bool×Bool:=(zE8 a).fin default
def zug:Ab.Spec ty:=zh zU2 fun x=>((zlI x.1).1,zTU (zlI x.1).2)
theorem zA9:SdP 62 zug:=
 sW (cx':=zSM) zr zi zk (zj ⟨zoo,zLE,zQ0,zoi,trivial⟩) Tryz.call62 Tryz.func62 (c:=body Tryz.f62) (lOK aN)
abbrev zmu:=yC×Unit×yC×Int×Int×yD×Int×Int×Unit
abbrev zrN:=Bool⊕(yC×yC×Int×Int)
abbrev zmd:=yC×yC×Int×Int×Unit
def zkc (zD:Atom→Bool×Bool) (a:yC) (t10:yC) (t11:Int) (t12:Int) (t40:yD) (t41:Int) (t42:Int) (t:Term):Wy zmu (Term×Unit) zrN:=.i (decide (t42<t41)) (.i (decide (0≤t42)&&decide (t42<Int.ofNat t40.length)) (.i (decide ((t40.getD t42.toNat default).Exp<1)) (.k (.inl false)) (.bn (zfz (Atom.mk (t40.getD t42.toNat default).Atom.Kind (t40.getD t42.toNat default).Atom.Row (t40.getD t42.toNat default).Atom.Args (t40.getD t42.toNat default).Atom.Func (t40.getD t42.toNat default).Atom.Items (t40.getD t42.toNat default).Atom.Op (t40.getD t42.toNat default).Atom.Bound)) fun r6=>.i (r6) (.i ((t40.getD t42.toNat default).Exp != 1) (.k (.inl false)) (.i (decide (t42>0)) (.i (decide (0≤IntKind.i64.wrap (t42 - 1))&&decide (IntKind.i64.wrap (t42 - 1)<Int.ofNat t.Factors.length)) (.bn (ziR (Atom.mk (t.Factors.getD (IntKind.i64.wrap (t42 - 1)).toNat default).Atom.Kind (t.Factors.getD (IntKind.i64.wrap (t42 - 1)).toNat default).Atom.Row (t.Factors.getD (IntKind.i64.wrap (t42 - 1)).toNat default).Atom.Args (t.Factors.getD (IntKind.i64.wrap (t42 - 1)).toNat default).Atom.Func (t.Factors.getD (IntKind.i64.wrap (t42 - 1)).toNat default).Atom.Items (t.Factors.getD (IntKind.i64.wrap (t42 - 1)).toNat default).Atom.Op (t.Factors.getD (IntKind.i64.wrap (t42 - 1)).toNat default).Atom.Bound) (Atom.mk (t40.getD t42.toNat default).Atom.Kind (t40.getD t42.toNat default).Atom.Row (t40.getD t42.toNat default).Atom.Args (t40.getD t42.toNat default).Atom.Func (t40.getD t42.toNat default).Atom.Items (t40.getD t42.toNat default).Atom.Op (t40.getD t42.toNat default).Atom.Bound)) fun r1=>.i (decide (r1≥0)) (.k (.inl false)) (.bn (zD (Atom.mk (t40.getD t42.toNat default).Atom.Kind (t40.getD t42.toNat default).Atom.Row (t40.getD t42.toNat default).Atom.Args (t40.getD t42.toNat default).Atom.Func (t40.getD t42.toNat default).Atom.Items (t40.getD t42.toNat default).Atom.Op (t40.getD t42.toNat default).Atom.Bound)) fun r0=>.i (!r0) (.k (.inl false)) (.h (a,(),t10,t11,t12,t40,t41,(IntKind.i64.wrap (t42+1)),()) (t,())))) .d) (.bn (zD (Atom.mk (t40.getD t42.toNat default).Atom.Kind (t40.getD t42.toNat default).Atom.Row (t40.getD t42.toNat default).Atom.Args (t40.getD t42.toNat default).Atom.Func (t40.getD t42.toNat default).Atom.Items (t40.getD t42.toNat default).Atom.Op (t40.getD t42.toNat default).Atom.Bound)) fun r2=>.i (!r2) (.k (.inl false)) (.h (a,(),t10,t11,t12,t40,t41,(IntKind.i64.wrap (t42+1)),()) (t,()))))) (.i (decide (t42>0)) (.i (decide (0≤IntKind.i64.wrap (t42 - 1))&&decide (IntKind.i64.wrap (t42 - 1)<Int.ofNat t.Factors.length)) (.bn (ziR (Atom.mk (t.Factors.getD (IntKind.i64.wrap (t42 - 1)).toNat default).Atom.Kind (t.Factors.getD (IntKind.i64.wrap (t42 - 1)).toNat default).Atom.Row (t.Factors.getD (IntKind.i64.wrap (t42 - 1)).toNat default).Atom.Args (t.Factors.getD (IntKind.i64.wrap (t42 - 1)).toNat default).Atom.Func (t.Factors.getD (IntKind.i64.wrap (t42 - 1)).toNat default).Atom.Items (t.Factors.getD (IntKind.i64.wrap (t42 - 1)).toNat default).Atom.Op (t.Factors.getD (IntKind.i64.wrap (t42 - 1)).toNat default).Atom.Bound) (Atom.mk (t40.getD t42.toNat default).Atom.Kind (t40.getD t42.toNat default).Atom.Row (t40.getD t42.toNat default).Atom.Args (t40.getD t42.toNat default).Atom.Func (t40.getD t42.toNat default).Atom.Items (t40.getD t42.toNat default).Atom.Op (t40.getD t42.toNat default).Atom.Bound)) fun r4=>.i (decide (r4≥0)) (.k (.inl false)) (.bn (zD (Atom.mk (t40.getD t42.toNat default).Atom.Kind (t40.getD t42.toNat default).Atom.Row (t40.getD t42.toNat default).Atom.Args (t40.getD t42.toNat default).Atom.Func (t40.getD t42.toNat default).Atom.Items (t40.getD t42.toNat default).Atom.Op (t40.getD t42.toNat default).Atom.Bound)) fun r3=>.i (!r3) (.k (.inl false)) (.h (a,(),t10,t11,t12,t40,t41,(IntKind.i64.wrap (t42+1)),()) (t,())))) .d) (.bn (zD (Atom.mk (t40.getD t42.toNat default).Atom.Kind (t40.getD t42.toNat default).Atom.Row (t40.getD t42.toNat default).Atom.Args (t40.getD t42.toNat default).Atom.Func (t40.getD t42.toNat default).Atom.Items (t40.getD t42.toNat default).Atom.Op (t40.getD t42.toNat default).Atom.Bound)) fun r5=>.i (!r5) (.k (.inl false)) (.h (a,(),t10,t11,t12,t40,t41,(IntKind.i64.wrap (t42+1)),()) (t,())))))) .d) (.k (.inr (a,t10,t11,t12)))
def zvN (zD:Atom→Bool×Bool) (x:zmu) (y:Term×Unit):Wy zmu (Term×Unit) zrN:=zkc zD x.1 x.2.2.1 x.2.2.2.1 x.2.2.2.2.1 x.2.2.2.2.2.1 x.2.2.2.2.2.2.1 x.2.2.2.2.2.2.2.1 y.1
def zu7 (zD:Atom→Bool×Bool) (n:Nat) (a:yC) (t10:yC) (t11:Int) (t12:Int) (t40:yD) (t41:Int) (t42:Int) (t:Term):Bool×zrN:=zF (zvN zD) (.inl default) n (a,(),t10,t11,t12,t40,t41,t42,()) (t,())
def zOK (r:zrN):LTree ty:=.ite (isL r) (.done .ret [.lit (.bool (getL r))] []) (.done (.exit 2) [.sl 28 (getR r).1,.sl 28 (getR r).2.1,.lit (.int .i64 (getR r).2.2.1),.lit (.int .i64 (getR r).2.2.2)] [])
def zQv:LL ty zmu:=za (lSl 28) (za (zeJ 340 0) (za (lSl 28) (za lI64 (za lI64 (za (lSl 69) (za lI64 (za lI64 zn)))))))
def zQR:BL ty (Term×Unit):=bBox (zfl (fun x=>(⟨x.1,x.2.1⟩:Term)) (fun x=>(x.Coeff,x.Factors,())) (fun _=>rfl) (za (lInt .i64) (za (lSl 69) zn))) false (bNil)
def zks (zD:Atom→Bool×Bool) (a:yC) (t10:yC) (t11:Int) (t12:Int):Wy zmd (Unit) (Bool⊕Unit):=.i (decide (t12<t11)) (.i (decide (0≤t12)&&decide (t12<Int.ofNat t10.length)) (.i (decide ((t10.getD t12.toNat default).Coeff<1)) (.k (.inl false)) (.i (decide ((t10.getD t12.toNat default).Coeff>1152921504606846976)) (.k (.inl false)) (.i (decide (t12>0)) (.i (decide (0≤IntKind.i64.wrap (t12 - 1))&&decide (IntKind.i64.wrap (t12 - 1)<Int.ofNat a.length)) (.bn (zb0 (a.getD (IntKind.i64.wrap (t12 - 1)).toNat default) (t10.getD t12.toNat default)) fun r15=>.i (decide (r15≥0)) (.k (.inl false)) (.bn (zu7 zD (a.length+t10.length+t11.toNat +t12.toNat +(t10.getD t12.toNat default).Factors.length+(Int.ofNat (t10.getD t12.toNat default).Factors.length).toNat +Int.toNat 0+(t10.getD t12.toNat default).Factors.length+1) a t10 t11 t12 (t10.getD t12.toNat default).Factors (Int.ofNat (t10.getD t12.toNat default).Factors.length) 0 (t10.getD t12.toNat default)) fun r14=>.i (isL r14) (.k (.inl (getL r14))) (.h ((getR r14).1,(getR r14).2.1,(getR r14).2.2.1,(IntKind.i64.wrap ((getR r14).2.2.2+1)),()) ()))) .d) (.bn (zu7 zD (a.length+t10.length+t11.toNat +t12.toNat +(t10.getD t12.toNat default).Factors.length+(Int.ofNat (t10.getD t12.toNat default).Factors.length).toNat +Int.toNat 0+(t10.getD t12.toNat default).Factors.length+1) a t10 t11 t12 (t10.getD t12.toNat default).Factors (Int.ofNat (t10.getD t12.toNat default).Factors.length) 0 (t10.getD t12.toNat default)) fun r16=>.i (isL r16) (.k (.inl (getL r16))) (.h ((getR r16).1,(getR r16).2.1,(getR r16).2.2.1,(IntKind.i64.wrap ((getR r16).2.2.2+1)),()) ()))))) .d) (.k (.inr ()))
def zvw (zD:Atom→Bool×Bool) (x:zmd) (y:Unit):Wy zmd (Unit) (Bool⊕Unit):=zks zD x.1 x.2.1 x.2.2.1 x.2.2.2.1
def zCH (zD:Atom→Bool×Bool) (n:Nat) (a:yC) (t10:yC) (t11:Int) (t12:Int):Bool×(Bool⊕Unit):=zF (zvw zD) (.inl default) n (a,t10,t11,t12,()) ()
def zOp (r:Bool⊕Unit):LTree ty:=.ite (isL r) (.done .ret [.lit (.bool (getL r))] []) (.done (.exit 0) [] [])
def zPS:LL ty zmd:=za (lSl 28) (za (lSl 28) (za lI64 (za lI64 zn)))
def zN5 (x:zmu) (y:Term×Unit):Nat:=(x.1.length+x.2.2.1.length+Int.toNat x.2.2.2.1+Int.toNat x.2.2.2.2.1+x.2.2.2.2.2.1.length+Int.toNat x.2.2.2.2.2.2.1+Int.toNat x.2.2.2.2.2.2.2.1+y.1.Factors.length+1)
def zOU (x:zmd) (y:Unit):Nat:=(x.1.length+x.2.1.length+Int.toNat x.2.2.1+Int.toNat x.2.2.2.1+1)
def zvG (zD:Atom→Bool×Bool):Cx ty:=mkCx base 85 [(62,zug),(63,annotation_compareLists_spec),(64,zjX),(65,annotation_compareAtoms_spec),(66,(zmU zD))] [] [(4,(kpL [0,10,11,12])),(9,(kpL [0,4,10,11,12,40,41,42]))] [(4,1,[]),(4,0,(kpL [2])),(9,3,(kpL [0,10,11,12])),(9,0,(kpL [2]))] [(9,spW zQv zQR (zvN zD) (.inl default) zOK zN5),(4,spW zPS z6c (zvw zD) (.inl default) zOp zOU)] []
theorem zOO (zD:Atom→Bool×Bool):zK (zvG zD) (lp (body Tryz.f20) 1):=zu (id:=9) (hl:=rfl)
theorem zOo (zD:Atom→Bool×Bool):zK (zvG zD) (lp (body Tryz.f20) 0):=zu (id:=4) (hl:=rfl)
def zEl (zD:Atom→Bool×Bool) (a:yC):Wy0 (Bool):=.bn (zlI a) fun r21=>.i (!r21) (.k false) (.bn (zCH zD (a.length+a.length+(Int.ofNat a.length).toNat +Int.toNat 0+1) a a (Int.ofNat a.length) 0) fun r20=>.i (isL r20) (.k (getL r20)) (.k true))
def zm5 (zD:Atom→Bool×Bool) (a:yC):Bool×Bool:=(zEl zD a).fin default
theorem zLY (zD:Atom→Bool×Bool) (zLU:SdP 66 (zmU zD)):SdP 20 (zhF (zm5 zD)):=
 sW (cx':=(zvG zD)) zr zi zk (zj ⟨zA9,zlY,znt,zuH,zLU,trivial⟩) Tryz.call20 Tryz.func20 (c:=body Tryz.f20) (lOK (aC (zOo zD) (aC (zOO zD) aN)))
def zUr:Cx ty:=mkCx base 9 [(67,annotation_Compare_spec)] [] [] [] [] []
def zG8 (a:yC) (b:yC):Wy0 (Bool):=.bn (zzB a b) fun r0=>.k (r0==0)
def zee (a:yC) (b:yC):Bool×Bool:=(zG8 a b).fin default
def zkt:Ab.Spec ty:=zh zRZ fun x=>((zee x.1 x.2.1).1,zTU (zee x.1 x.2.1).2)
theorem zmR:SdP 21 zkt:=
 sW (cx':=zUr) zr zi zk (zj ⟨zL1,trivial⟩) Tryz.call21 Tryz.func21 (c:=body Tryz.f21) (lOK aN)
def z3V:Cx ty:=mkCx base 36 [] [] [] [] [] []
def zTf (v:Value):Wy0 (Bool):=.i (v.Kind==0) (.k (v.Text.toList==(ByteArray.mk #[]).toList)) (.i (v.Kind==1) (.i (v.Int==0) (.k (decide (Int.ofNat v.Text.size≤255))) (.k false)) (.i (v.Kind==2) (.i (v.Int==0) (.k (v.Text.toList==(ByteArray.mk #[]).toList)) (.i (v.Int==1) (.k (v.Text.toList==(ByteArray.mk #[]).toList)) (.k false))) (.k false)))
def zua (v:Value):Bool×Bool:=(zTf v).fin default
def z6r:AL base (Value×Unit):=zd (ze (vAgg 65)) aNil
def zwI:Ab.Spec ty:=zh z6r fun x=>((zua x.1).1,zTU (zua x.1).2)
theorem zBs:SdP 164 zwI:=
 sW (cx':=z3V) zr zi zk (zj trivial) Tryz.call164 Tryz.func164 (c:=body Tryz.f164) (lOK aN)
def zLy:Cx ty:=mkCx base 27 [(164,zwI)] [] [] [] [] []
def zAZ (w:Weighted) (p1:Value) (p2:Int):Wy0 (Bool):=.bn (zua w.Value) fun r0=>.i (!r0) (.k true) (.i (w.Value.Kind != p1.Kind) (.k true) (.i (p2==0) (.k (w.Value.Int != 1)) (.k false)))
def zhh (w:Weighted) (p1:Value) (p2:Int):Bool×Bool:=(zAZ w p1 p2).fin default
def zMO:AL base (Weighted×Value×(Int×Unit)×Unit):=zd (ze (vAgg 100)) (zd (ze (zy2 65)) (zd (ze (vBox (zdH vI64 vNil))) aNil))
def zjU:Ab.Spec ty:=zh zMO fun x=>((zhh x.1 x.2.1 x.2.2.1.1).1,zTU (zhh x.1 x.2.1 x.2.2.1.1).2)
theorem znB:SdP 165 zjU:=
 sW (cx':=zLy) zr zi zk (zj ⟨zBs,trivial⟩) Tryz.call165 Tryz.func165 (c:=body Tryz.f165) (lOK aN)
abbrev zcw:=yE×(Value×(Int×Unit)×Unit)×Int×Int×Unit
def zqr (s:yE) (f_0:Value) (f_1:Int) (t7:Int) (t8:Int):Wy zcw (Unit) (Int⊕Unit):=.i (decide (t8<t7)) (.i (decide (0≤t8)&&decide (t8<Int.ofNat s.length)) (.bn (zhh (s.getD t8.toNat default) f_0 f_1) fun r0=>.i (r0) (.k (.inl t8)) (.h (s,(f_0,(f_1,()),()),t7,(IntKind.i64.wrap (t8+1)),()) ())) .d) (.k (.inr ()))
def zhs (x:zcw) (y:Unit):Wy zcw (Unit) (Int⊕Unit):=zqr x.1 x.2.1.1 x.2.1.2.1.1 x.2.2.1 x.2.2.2.1
def zp3 (n:Nat) (s:yE) (f_0:Value) (f_1:Int) (t7:Int) (t8:Int):Bool×(Int⊕Unit):=zF (zhs) (.inl default) n (s,(f_0,(f_1,()),()),t7,t8,()) ()
def zqq:LL ty zcw:=za (lSl 100) (za (lFn 165 (za (znd (zfl (fun x=>(⟨x.1,x.2.1,x.2.2.1⟩:Value)) (fun x=>(x.Kind,x.Int,x.Text,())) (fun _=>rfl) (za lI64 (za lI64 (za lStr zn)))) 0) (za (znd (za lI64 zn) 0) zn))) (za lI64 (za lI64 zn)))
def zpg (x:zcw) (y:Unit):Nat:=(x.1.length+Int.toNat x.2.1.2.1.1+Int.toNat x.2.2.1+Int.toNat x.2.2.2.1+1)
def zhq:Cx ty:=mkCx base 19 [(165,zjU)] [] [(2,(kpL [0,1,7,8]))] [(2,1,[]),(2,0,(kpL [4]))] [(2,spW zqq z6c (zhs) (.inl default) zs2 zpg)] []
theorem zpK:zK zhq (lp (body Tryz.f163) 0):=zu (id:=2) (hl:=rfl)
def zq4 (s:yE) (f_0:Value) (f_1:Int):Wy0 (Int):=.bn (zp3 (s.length+f_1.toNat +(Int.ofNat s.length).toNat +Int.toNat 0+1) s f_0 f_1 (Int.ofNat s.length) 0) fun r2=>.i (isL r2) (.k (getL r2)) (.k (-1:Int))
def zds (s:yE) (f_0:Value) (f_1:Int):Bool×Int:=(zq4 s f_0 f_1).fin default
def zqK:AL base (yE×(Value×(Int×Unit)×Unit)×Unit):=zd (ze (vSl 100)) (zd (ze (vFn 165 (zdH (zy2 65) (zdH (vBox (zdH vI64 vNil)) vNil)))) aNil)
def zgH:Ab.Spec ty:=zh zqK fun x=>((zds x.1 x.2.1.1 x.2.1.2.1.1).1,zN6 (zds x.1 x.2.1.1 x.2.1.2.1.1).2)
theorem zof:SdP 163 zgH:=
 sW (cx':=zhq) zr zi zk (zj ⟨znB,trivial⟩) Tryz.call163 Tryz.func163 (c:=body Tryz.f163) (lOK (aC zpK aN))
def zos:Cx ty:=mkCx base 9 [(163,zgH),(165,zjU)] [] [] [] [] []
def zgC (s:yE) (f_0:Value) (f_1:Int):Wy0 (Bool):=.bn (zds s f_0 f_1) fun r0=>.k (decide (r0≥0))
def zby (s:yE) (f_0:Value) (f_1:Int):Bool×Bool:=(zgC s f_0 f_1).fin default
def zf0:Ab.Spec ty:=zh zqK fun x=>((zby x.1 x.2.1.1 x.2.1.2.1.1).1,zTU (zby x.1 x.2.1.1 x.2.1.2.1.1).2)
theorem zmP:SdP 132 zf0:=
 sW (cx':=zos) zr zi zk (zj ⟨zof,znB,trivial⟩) Tryz.call132 Tryz.func132 (c:=body Tryz.f132) (lOK aN)
def zQs:Cx ty:=mkCx base 43 [(132,zf0),(164,zwI),(165,zjU)] [] [] [] [] []
def zD7 (fn:Int) (items:yE) (op:Int) (bound:Value):Wy0 (Bool):=.i (decide (fn<0)) (.k false) (.i (decide (fn>3)) (.k false) (.i (decide (op<5)) (.k false) (.i (decide (op>10)) (.k false) (.bn (zua bound) fun r3=>.i (!r3) (.k false) (.i (fn==0) (.i (bound.Kind != 0) (.k false) (.bn (zby items bound fn) fun r0=>.k (!r0))) (.i (fn==1) (.i (bound.Kind != 0) (.k false) (.bn (zby items bound fn) fun r1=>.k (!r1))) (.bn (zby items bound fn) fun r2=>.k (!r2))))))))
def zkf (fn:Int) (items:yE) (op:Int) (bound:Value):Bool×Bool:=(zD7 fn items op bound).fin default
def zRQ:AL base (Int×yE×Int×Value×Unit):=zd (ze vI64) (zd (ze (vSl 100)) (zd (ze vI64) (zd (ze (vAgg 65)) aNil)))
def zsP:Ab.Spec ty:=zh zRQ fun x=>((zkf x.1 x.2.1 x.2.2.1 x.2.2.2.1).1,zTU (zkf x.1 x.2.1 x.2.2.1 x.2.2.2.1).2)
theorem zzx:SdP 135 zsP:=
 sW (cx':=zQs) zr zi zk (zj ⟨zmP,zBs,znB,trivial⟩) Tryz.call135 Tryz.func135 (c:=body Tryz.f135) (lOK aN)
def zF0:Cx ty:=mkCx base 7 [] [] [] [] [] []
def zwr (t:Term):Wy0 (Bool):=.k (Int.ofNat t.Factors.length==0)
def zg8 (t:Term):Bool×Bool:=(zwr t).fin default
def zg2:Ab.Spec ty:=zh zPh fun x=>((zg8 x.1).1,zTU (zg8 x.1).2)
theorem zkQ:SdP 162 zg2:=
 sW (cx':=zF0) zr zi zk (zj trivial) Tryz.call162 Tryz.func162 (c:=body Tryz.f162) (lOK aN)
abbrev zc1:=yC×Unit×Int×Int×Unit
def zsr (s:yC) (t7:Int) (t8:Int):Wy zc1 (Unit) (Int⊕Unit):=.i (decide (t8<t7)) (.i (decide (0≤t8)&&decide (t8<Int.ofNat s.length)) (.i ((zg8 (s.getD t8.toNat default)).2) (.k (.inl t8)) (.h (s,(),t7,(IntKind.i64.wrap (t8+1)),()) ())) .d) (.k (.inr ()))
def zi5 (x:zc1) (y:Unit):Wy zc1 (Unit) (Int⊕Unit):=zsr x.1 x.2.2.1 x.2.2.2.1
def zsE (n:Nat) (s:yC) (t7:Int) (t8:Int):Bool×(Int⊕Unit):=zF (zi5) (.inl default) n (s,(),t7,t8,()) ()
def zsU:LL ty zc1:=za (lSl 28) (za (lFn 162 (zn)) (za lI64 (za lI64 zn)))
def zrX (x:zc1) (y:Unit):Nat:=(x.1.length+Int.toNat x.2.2.1+Int.toNat x.2.2.2.1+1)
def ziH:Cx ty:=mkCx base 19 [(162,zg2)] [] [(2,(kpL [0,1,7,8]))] [(2,1,[]),(2,0,(kpL [4]))] [(2,spW zsU z6c (zi5) (.inl default) zs2 zrX)] []
theorem zrQ:zK ziH (lp (body Tryz.f113) 0):=zu (id:=2) (hl:=rfl)
def ztx (s:yC):Wy0 (Int):=.bn (zsE (s.length+(Int.ofNat s.length).toNat +Int.toNat 0+1) s (Int.ofNat s.length) 0) fun r0=>.i (isL r0) (.k (getL r0)) (.k (-1:Int))
def zdY (s:yC):Bool×Int:=(ztx s).fin default
def zti:AL base (yC×Unit×Unit):=zd (ze (vSl 28)) (zd (ze (vFn 162 vNil)) aNil)
def zhG:Ab.Spec ty:=zh zti fun x=>((zdY x.1).1,zN6 (zdY x.1).2)
theorem zqu:SdP 113 zhG:=
 sW (cx':=ziH) zr zi zk (zj ⟨zkQ,trivial⟩) Tryz.call113 Tryz.func113 (c:=body Tryz.f113) (lOK (aC zrQ aN))
def zqb:Cx ty:=mkCx base 9 [(113,zhG),(162,zg2)] [] [] [] [] []
def zhB (s:yC):Wy0 (Bool):=.bn (zdY s) fun r0=>.k (decide (r0≥0))
def zdt (s:yC):Bool×Bool:=(zhB s).fin default
def zgM:Ab.Spec ty:=zh zti fun x=>((zdt x.1).1,zTU (zdt x.1).2)
theorem zn8:SdP 59 zgM:=
 sW (cx':=zqb) zr zi zk (zj ⟨zqu,zkQ,trivial⟩) Tryz.call59 Tryz.func59 (c:=body Tryz.f59) (lOK aN)
def zJS:Cx ty:=mkCx base 5 [(59,zgM),(162,zg2)] [] [] [] [] []
def zzQ (a:yC):Wy0 (Bool):=.bn (zdt a) fun r0=>.k r0
def ze3 (a:yC):Bool×Bool:=(zzQ a).fin default
def zm9:Ab.Spec ty:=zh zU2 fun x=>((ze3 x.1).1,zTU (ze3 x.1).2)
theorem zvV:SdP 131 zm9:=
 sW (cx':=zJS) zr zi zk (zj ⟨zn8,zkQ,trivial⟩) Tryz.call131 Tryz.func131 (c:=body Tryz.f131) (lOK aN)
def zKw:Cx ty:=mkCx base 14 [] [] [] [] [] []
def zA4 (a:yC):Wy0 (Bool):=.i (Int.ofNat a.length==1) (.i (decide ((0:Int)≤(0:Int))&&decide (0<Int.ofNat a.length)) (.k (Int.ofNat (a.getD (Int.toNat 0) default).Factors.length==0)) .d) (.k false)
def zhj (a:yC):Bool×Bool:=(zA4 a).fin default
def zob:Ab.Spec ty:=zh zU2 fun x=>((zhj x.1).1,zTU (zhj x.1).2)
theorem zwq:SdP 129 zob:=
 sW (cx':=zKw) zr zi zk (zj trivial) Tryz.call129 Tryz.func129 (c:=body Tryz.f129) (lOK aN)
def zRA:Cx ty:=mkCx base 42 [(64,zjX)] [] [] [] [] []
def zEV (a:yC):Wy0 (Bool):=.i (Int.ofNat a.length != 1) (.k false) (.i (decide ((0:Int)≤(0:Int))&&decide (0<Int.ofNat a.length)) (.i ((a.getD (Int.toNat 0) default).Coeff != 1) (.k false) (.i (decide ((0:Int)≤(0:Int))&&decide (0<Int.ofNat a.length)) (.i (Int.ofNat (a.getD (Int.toNat 0) default).Factors.length != 1) (.k false) (.i (decide ((0:Int)≤(0:Int))&&decide (0<Int.ofNat a.length)) (.i (decide ((0:Int)≤(0:Int))&&decide (0<Int.ofNat (a.getD (Int.toNat 0) default).Factors.length)) (.i (((a.getD (Int.toNat 0) default).Factors.getD (Int.toNat 0) default).Exp==1) (.i (((a.getD (Int.toNat 0) default).Factors.getD (Int.toNat 0) default).Atom.Kind==2) (.k true) (.bn (zfz (Atom.mk ((a.getD (Int.toNat 0) default).Factors.getD (Int.toNat 0) default).Atom.Kind ((a.getD (Int.toNat 0) default).Factors.getD (Int.toNat 0) default).Atom.Row ((a.getD (Int.toNat 0) default).Factors.getD (Int.toNat 0) default).Atom.Args ((a.getD (Int.toNat 0) default).Factors.getD (Int.toNat 0) default).Atom.Func ((a.getD (Int.toNat 0) default).Factors.getD (Int.toNat 0) default).Atom.Items ((a.getD (Int.toNat 0) default).Factors.getD (Int.toNat 0) default).Atom.Op ((a.getD (Int.toNat 0) default).Factors.getD (Int.toNat 0) default).Atom.Bound)) fun r0=>.k r0)) (.k false)) .d) .d)) .d)) .d)
def zlJ (a:yC):Bool×Bool:=(zEV a).fin default
def zub:Ab.Spec ty:=zh zU2 fun x=>((zlJ x.1).1,zTU (zlJ x.1).2)
theorem zA6:SdP 130 zub:=
 sW (cx':=zRA) zr zi zk (zj ⟨znt,trivial⟩) Tryz.call130 Tryz.func130 (c:=body Tryz.f130) (lOK aN)
def z2u:Cx ty:=mkCx base 11 [] [] [] [] [] []
def zP4 (id:RowID):Wy0 (Bool):=.i (decide (id.Table≥1)) (.k (decide (id.Seq≥1))) (.k false)
def zq6 (id:RowID):Bool×Bool:=(zP4 id).fin default
def z4J:AL base (RowID×Unit):=zd (ze (vAgg 49)) aNil
def zuY:Ab.Spec ty:=zh z4J fun x=>((zq6 x.1).1,zTU (zq6 x.1).2)
theorem zzX:SdP 128 zuY:=
 sW (cx':=z2u) zr zi zk (zj trivial) Tryz.call128 Tryz.func128 (c:=body Tryz.f128) (lOK aN)
abbrev zdC:=yE×Unit×Int×Unit
def zez (x_:yE) (i:Int):Wy zdC (Unit) (Bool⊕Unit):=.i (decide (i>0)) (.i (decide (0≤i)&&decide (i<Int.ofNat x_.length)) (.i (decide (0≤IntKind.i64.wrap (i - 1))&&decide (IntKind.i64.wrap (i - 1)<Int.ofNat x_.length)) (.bn (zbd (x_.getD i.toNat default) (x_.getD (IntKind.i64.wrap (i - 1)).toNat default)) fun r0=>.i (decide (r0<0)) (.k (.inl false)) (.h (x_,(),(IntKind.i64.wrap (i - 1)),()) ())) .d) .d) (.k (.inr ()))
def zhe (x:zdC) (y:Unit):Wy zdC (Unit) (Bool⊕Unit):=zez x.1 x.2.2.1
def zeA (n:Nat) (x_:yE) (i:Int):Bool×(Bool⊕Unit):=zF (zhe) (.inl default) n (x_,(),i,()) ()
def zqs:LL ty zdC:=za (lSl 100) (za (lFn 124 (zn)) (za lI64 zn))
def zho:Cx ty:=mkCx base 25 [(124,annotation_compareItems_spec)] [] [(2,(kpL [0,1,5]))] [(2,1,[]),(2,0,(kpL [4]))] [(2,spW zqs z6c (zhe) (.inl default) zOp fun x y=>(x.1.length+Int.toNat x.2.2.1+1))] []
theorem zo8:zK zho (lp (body Tryz.f134) 0):=zu (id:=2) (hl:=rfl)
def zh0 (x_:yE):Wy0 (Bool):=.bn (zeA (x_.length+(IntKind.i64.wrap (Int.ofNat x_.length - 1)).toNat +1) x_ (IntKind.i64.wrap (Int.ofNat x_.length - 1))) fun r2=>.i (isL r2) (.k (getL r2)) (.k true)
def zcj (x_:yE):Bool×Bool:=(zh0 x_).fin default
def zqQ:AL base (yE×Unit×Unit):=zd (ze (vSl 100)) (zd (ze (vFn 124 vNil)) aNil)
def zgE:Ab.Spec ty:=zh zqQ fun x=>((zcj x.1).1,zTU (zcj x.1).2)
theorem zn6:SdP 134 zgE:=
 sW (cx':=zho) zr zi zk (zj ⟨zhw,trivial⟩) Tryz.call134 Tryz.func134 (c:=body Tryz.f134) (lOK (aC zo8 aN))
def zcU (zb:yA→Bool×Bool) (zg:yC→Bool×Bool) (zc:yE→Bool×Bool) (zf:Weighted→Bool×Bool):Cx ty:=mkCx base 149 [(21,zkt),(124,annotation_compareItems_spec),(126,(zcn zb)),(127,(zhF zg)),(128,zuY),(129,zob),(130,zub),(131,zm9),(132,(zcG zc)),(133,(zdB zf)),(134,zgE),(135,zsP)] [] [] [] [] []
def zb7 (zb:yA→Bool×Bool) (zg:yC→Bool×Bool) (zc:yE→Bool×Bool) (zf:Weighted→Bool×Bool) (x_:Atom):Wy0 (Bool):=.i (x_.Kind==0) (.i (x_.Func != 0) (.k false) (.i (Int.ofNat x_.Items.length != 0) (.k false) (.i (x_.Op != 0) (.k false) (.i (!(x_.Bound.Kind==0&&(x_.Bound.Int==0&&(x_.Bound.Text.toList==(ByteArray.mk #[]).toList&&true)))) (.k false) (.bn (zb x_.Args) fun r1=>.i (r1) (.k false) (.bn (zq6 x_.Row) fun r0=>.i (r0) (.k (Int.ofNat x_.Args.length==0)) (.k false))))))) (.i (x_.Kind==1) (.i (x_.Func != 0) (.k false) (.i (Int.ofNat x_.Items.length != 0) (.k false) (.i (x_.Op != 0) (.k false) (.i (!(x_.Bound.Kind==0&&(x_.Bound.Int==0&&(x_.Bound.Text.toList==(ByteArray.mk #[]).toList&&true)))) (.k false) (.i (!(x_.Row.Table==0&&(x_.Row.Seq==0&&true))) (.k false) (.bn (zb x_.Args) fun r3=>.i (r3) (.k false) (.i (Int.ofNat x_.Args.length==2) (.i (decide ((0:Int)≤(0:Int))&&decide (0<Int.ofNat x_.Args.length)) (.i (decide ((0:Int)≤(1:Int))&&decide (1<Int.ofNat x_.Args.length)) (.bn (zee (x_.Args.getD (Int.toNat 0) default) (x_.Args.getD (Int.toNat 1) default)) fun r2=>.k (!r2)) .d) .d) (.k false)))))))) (.i (x_.Kind==2) (.i (x_.Func != 0) (.k false) (.i (Int.ofNat x_.Items.length != 0) (.k false) (.i (x_.Op != 0) (.k false) (.i (!(x_.Bound.Kind==0&&(x_.Bound.Int==0&&(x_.Bound.Text.toList==(ByteArray.mk #[]).toList&&true)))) (.k false) (.i (!(x_.Row.Table==0&&(x_.Row.Seq==0&&true))) (.k false) (.bn (zb x_.Args) fun r6=>.i (r6) (.k false) (.i (Int.ofNat x_.Args.length==1) (.i (decide ((0:Int)≤(0:Int))&&decide (0<Int.ofNat x_.Args.length)) (.bn (zhj (x_.Args.getD (Int.toNat 0) default)) fun r5=>.i (!r5) (.i (decide ((0:Int)≤(0:Int))&&decide (0<Int.ofNat x_.Args.length)) (.bn (zlJ (x_.Args.getD (Int.toNat 0) default)) fun r4=>.k (!r4)) .d) (.k false)) .d) (.k false)))))))) (.i (x_.Kind==3) (.i (x_.Func != 0) (.k false) (.i (Int.ofNat x_.Items.length != 0) (.k false) (.i (x_.Op != 0) (.k false) (.i (!(x_.Bound.Kind==0&&(x_.Bound.Int==0&&(x_.Bound.Text.toList==(ByteArray.mk #[]).toList&&true)))) (.k false) (.i (!(x_.Row.Table==0&&(x_.Row.Seq==0&&true))) (.k false) (.bn (zb x_.Args) fun r8=>.i (r8) (.k false) (.i (Int.ofNat x_.Args.length==1) (.i (decide ((0:Int)≤(0:Int))&&decide (0<Int.ofNat x_.Args.length)) (.bn (ze3 (x_.Args.getD (Int.toNat 0) default)) fun r7=>.k (!r7)) .d) (.k false)))))))) (.i (x_.Kind==4) (.i (!(x_.Row.Table==0&&(x_.Row.Seq==0&&true))) (.k false) (.bn (zb x_.Args) fun r12=>.i (r12) (.k false) (.bn (zc x_.Items) fun r11=>.i (Int.ofNat x_.Args.length==0) (.i (decide (Int.ofNat x_.Items.length>0)) (.i (!r11) (.bn (zcj x_.Items) fun r10=>.i (r10) (.bn (zkf x_.Func x_.Items x_.Op x_.Bound) fun r9=>.k r9) (.k false)) (.k false)) (.k false)) (.k false)))) (.i (x_.Func != 0) (.k false) (.i (Int.ofNat x_.Items.length != 0) (.k false) (.i (x_.Op != 0) (.k false) (.i (!(x_.Bound.Kind==0&&(x_.Bound.Int==0&&(x_.Bound.Text.toList==(ByteArray.mk #[]).toList&&true)))) (.k false) (.i (!(x_.Row.Table==0&&(x_.Row.Seq==0&&true))) (.k false) (.bn (zb x_.Args) fun r14=>.i (r14) (.k false) (.k false)))))))))))
def zjx (zb:yA→Bool×Bool) (zg:yC→Bool×Bool) (zc:yE→Bool×Bool) (zf:Weighted→Bool×Bool) (x_:Atom):Bool×Bool:=(zb7 zb zg zc zf x_).fin default
theorem zGM (zb:yA→Bool×Bool) (zg:yC→Bool×Bool) (zc:yE→Bool×Bool) (zf:Weighted→Bool×Bool) (v_Row:RowID) (v_Args:yA) (v_Func:Int) (v_Items:yE) (v_Op:Int) (v_Bound:Value)  :zg5 (zcU zb zg zc zf) Tryz.f66 (body Tryz.f66) ⟨[.pure],[]⟩ [.pure (.agg (base.enc 67 (Atom.mk (Int.ofNat 0) v_Row v_Args v_Func v_Items v_Op v_Bound)))]=(zb7 zb zg zc zf (Atom.mk (Int.ofNat 0) v_Row v_Args v_Func v_Items v_Op v_Bound)).ev noH (fun r=>some (zTU r)) none:=by kernel_rfl
theorem zGN (zb:yA→Bool×Bool) (zg:yC→Bool×Bool) (zc:yE→Bool×Bool) (zf:Weighted→Bool×Bool) (v_Row:RowID) (v_Args:yA) (v_Func:Int) (v_Items:yE) (v_Op:Int) (v_Bound:Value)  :zg5 (zcU zb zg zc zf) Tryz.f66 (body Tryz.f66) ⟨[.pure],[]⟩ [.pure (.agg (base.enc 67 (Atom.mk (Int.ofNat 1) v_Row v_Args v_Func v_Items v_Op v_Bound)))]=(zb7 zb zg zc zf (Atom.mk (Int.ofNat 1) v_Row v_Args v_Func v_Items v_Op v_Bound)).ev noH (fun r=>some (zTU r)) none:=by kernel_rfl
theorem zHg (zb:yA→Bool×Bool) (zg:yC→Bool×Bool) (zc:yE→Bool×Bool) (zf:Weighted→Bool×Bool) (v_Row:RowID) (v_Args:yA) (v_Func:Int) (v_Items:yE) (v_Op:Int) (v_Bound:Value)  :zg5 (zcU zb zg zc zf) Tryz.f66 (body Tryz.f66) ⟨[.pure],[]⟩ [.pure (.agg (base.enc 67 (Atom.mk (Int.ofNat 2) v_Row v_Args v_Func v_Items v_Op v_Bound)))]=(zb7 zb zg zc zf (Atom.mk (Int.ofNat 2) v_Row v_Args v_Func v_Items v_Op v_Bound)).ev noH (fun r=>some (zTU r)) none:=by kernel_rfl
theorem zGq (zb:yA→Bool×Bool) (zg:yC→Bool×Bool) (zc:yE→Bool×Bool) (zf:Weighted→Bool×Bool) (v_Row:RowID) (v_Args:yA) (v_Func:Int) (v_Items:yE) (v_Op:Int) (v_Bound:Value)  :zg5 (zcU zb zg zc zf) Tryz.f66 (body Tryz.f66) ⟨[.pure],[]⟩ [.pure (.agg (base.enc 67 (Atom.mk (Int.ofNat 3) v_Row v_Args v_Func v_Items v_Op v_Bound)))]=(zb7 zb zg zc zf (Atom.mk (Int.ofNat 3) v_Row v_Args v_Func v_Items v_Op v_Bound)).ev noH (fun r=>some (zTU r)) none:=by kernel_rfl
theorem zGu (zb:yA→Bool×Bool) (zg:yC→Bool×Bool) (zc:yE→Bool×Bool) (zf:Weighted→Bool×Bool) (v_Row:RowID) (v_Args:yA) (v_Func:Int) (v_Items:yE) (v_Op:Int) (v_Bound:Value)  :zg5 (zcU zb zg zc zf) Tryz.f66 (body Tryz.f66) ⟨[.pure],[]⟩ [.pure (.agg (base.enc 67 (Atom.mk (Int.ofNat 4) v_Row v_Args v_Func v_Items v_Op v_Bound)))]=(zb7 zb zg zc zf (Atom.mk (Int.ofNat 4) v_Row v_Args v_Func v_Items v_Op v_Bound)).ev noH (fun r=>some (zTU r)) none:=by kernel_rfl
theorem zHB (zb:yA→Bool×Bool) (zg:yC→Bool×Bool) (zc:yE→Bool×Bool) (zf:Weighted→Bool×Bool) (n:Nat) (v_Row:RowID) (v_Args:yA) (v_Func:Int) (v_Items:yE) (v_Op:Int) (v_Bound:Value)  :zg5 (zcU zb zg zc zf) Tryz.f66 (body Tryz.f66) ⟨[.pure],[]⟩ [.pure (.agg (base.enc 67 (Atom.mk (Int.ofNat (n+5)) v_Row v_Args v_Func v_Items v_Op v_Bound)))]=(zb7 zb zg zc zf (Atom.mk (Int.ofNat (n+5)) v_Row v_Args v_Func v_Items v_Op v_Bound)).ev noH (fun r=>some (zTU r)) none:=by kernel_rfl
theorem zGG (zb:yA→Bool×Bool) (zg:yC→Bool×Bool) (zc:yE→Bool×Bool) (zf:Weighted→Bool×Bool) (n:Nat) (v_Row:RowID) (v_Args:yA) (v_Func:Int) (v_Items:yE) (v_Op:Int) (v_Bound:Value)  :zg5 (zcU zb zg zc zf) Tryz.f66 (body Tryz.f66) ⟨[.pure],[]⟩ [.pure (.agg (base.enc 67 (Atom.mk (Int.negSucc n) v_Row v_Args v_Func v_Items v_Op v_Bound)))]=(zb7 zb zg zc zf (Atom.mk (Int.negSucc n) v_Row v_Args v_Func v_Items v_Op v_Bound)).ev noH (fun r=>some (zTU r)) none:=by kernel_rfl
theorem zII (zb:yA→Bool×Bool) (zg:yC→Bool×Bool) (zc:yE→Bool×Bool) (zf:Weighted→Bool×Bool) (x_:Atom):zg5 (zcU zb zg zc zf) Tryz.f66 (body Tryz.f66) ⟨[.pure],[]⟩ [.pure (.agg (base.enc 67 x_))]=(zb7 zb zg zc zf x_).ev noH (fun r=>some (zTU r)) none:=by
 obtain ⟨v_Kind,v_Row,v_Args,v_Func,v_Items,v_Op,v_Bound⟩:=x_
 match v_Kind with
 | .ofNat 0=>exact zGM zb zg zc zf v_Row v_Args v_Func v_Items v_Op v_Bound 
 | .ofNat 1=>exact zGN zb zg zc zf v_Row v_Args v_Func v_Items v_Op v_Bound 
 | .ofNat 2=>exact zHg zb zg zc zf v_Row v_Args v_Func v_Items v_Op v_Bound 
 | .ofNat 3=>exact zGq zb zg zc zf v_Row v_Args v_Func v_Items v_Op v_Bound 
 | .ofNat 4=>exact zGu zb zg zc zf v_Row v_Args v_Func v_Items v_Op v_Bound 
 | .ofNat (n+5)=>exact zHB zb zg zc zf n v_Row v_Args v_Func v_Items v_Op v_Bound 
 | .negSucc n=>exact zGG zb zg zc zf n v_Row v_Args v_Func v_Items v_Op v_Bound 
theorem zFN (zb:yA→Bool×Bool) (zg:yC→Bool×Bool) (zc:yE→Bool×Bool) (zf:Weighted→Bool×Bool) (zmr:SdP 126 (zcn zb)) (zfY:SdP 127 (zhF zg)) (znM:SdP 132 (zcG zc)) (zfT:SdP 133 (zdB zf)):SdP 66 (zmU (zjx zb zg zc zf)):=
 zXD (cx':=(zcU zb zg zc zf)) zr zi zk (zj ⟨zmR,zhw,zmr,zfY,zzX,zwq,zA6,zvV,znM,zfT,zn6,zzx,trivial⟩) Tryz.call66 Tryz.func66 (c:=body Tryz.f66) (by kernel_rfl) (zAS (l:=[]) (by kernel_rfl) trivial) (sg:=⟨[.pure],[]⟩) (A:=zBK) (res:=zTU) (W:=fun x=>zb7 zb zg zc zf x.1) (z:=default) (fun x=>zII zb zg zc zf x.1) (fun _=>by kernel_rfl)
def zF1 (zbM:yC→Bool×Bool):Cx ty:=mkCx base 11 [(20,(zhF zbM))] [] [] [] [] []
def zwu (zbM:yC→Bool×Bool) (a:yC):Wy0 (Bool):=.bn (zbM a) fun r0=>.i (!r0) (.k true) (.k (Int.ofNat a.length==0))
def zkO (zbM:yC→Bool×Bool) (a:yC):Bool×Bool:=(zwu zbM a).fin default
theorem zDf (zbM:yC→Bool×Bool) (zwP:SdP 20 (zhF zbM)):SdP 127 (zhF (zkO zbM)):=
 sW (cx':=(zF1 zbM)) zr zi zk (zj ⟨zwP,trivial⟩) Tryz.call127 Tryz.func127 (c:=body Tryz.f127) (lOK aN)
def zFv (zbM:yC→Bool×Bool):Cx ty:=mkCx base 13 [(20,(zhF zbM))] [] [] [] [] []
def zws (zbM:yC→Bool×Bool) (w:Weighted):Wy0 (Bool):=.bn (zbM w.Ann) fun r0=>.i (!r0) (.k true) (.k (Int.ofNat w.Ann.length==0))
def zkG (zbM:yC→Bool×Bool) (w:Weighted):Bool×Bool:=(zws zbM w).fin default
theorem zDh (zbM:yC→Bool×Bool) (zwP:SdP 20 (zhF zbM)):SdP 133 (zdB (zkG zbM)):=
 sW (cx':=(zFv zbM)) zr zi zk (zj ⟨zwP,trivial⟩) Tryz.call133 Tryz.func133 (c:=body Tryz.f133) (lOK aN)
def zlV (zg:yC→Bool×Bool) (zY:yA→Bool×Int):Cx ty:=mkCx base 9 [(127,(zhF zg)),(161,(zcE zY))] [] [] [] [] []
def zfj (zg:yC→Bool×Bool) (zY:yA→Bool×Int) (s:yA):Wy0 (Bool):=.bn (zY s) fun r0=>.k (decide (r0≥0))
def zco (zg:yC→Bool×Bool) (zY:yA→Bool×Int) (s:yA):Bool×Bool:=(zfj zg zY s).fin default
theorem zkX (zg:yC→Bool×Bool) (zY:yA→Bool×Int) (zfY:SdP 127 (zhF zg)) (znc:SdP 161 (zcE zY)):SdP 126 (zcn (zco zg zY)):=
 sW (cx':=(zlV zg zY)) zr zi zk (zj ⟨zfY,znc,trivial⟩) Tryz.call126 Tryz.func126 (c:=body Tryz.f126) (lOK aN)
def zno (zf:Weighted→Bool×Bool) (z7:yE→Bool×Int):Cx ty:=mkCx base 9 [(133,(zdB zf)),(163,(zdb z7))] [] [] [] [] []
def zgd (zf:Weighted→Bool×Bool) (z7:yE→Bool×Int) (s:yE):Wy0 (Bool):=.bn (z7 s) fun r0=>.k (decide (r0≥0))
def zcI (zf:Weighted→Bool×Bool) (z7:yE→Bool×Int) (s:yE):Bool×Bool:=(zgd zf z7 s).fin default
theorem zmj (zf:Weighted→Bool×Bool) (z7:yE→Bool×Int) (zfT:SdP 133 (zdB zf)) (zo5:SdP 163 (zdb z7)):SdP 132 (zcG (zcI zf z7)):=
 sW (cx':=(zno zf z7)) zr zi zk (zj ⟨zfT,zo5,trivial⟩) Tryz.call132 Tryz.func132 (c:=body Tryz.f132) (lOK aN)
abbrev zb8:=yA×Unit×Int×Int×Unit
def zmY (zg:yC→Bool×Bool) (s:yA) (t7:Int) (t8:Int):Wy zb8 (Unit) (Int⊕Unit):=.i (decide (t8<t7)) (.i (decide (0≤t8)&&decide (t8<Int.ofNat s.length)) (.bn (zg (s.getD t8.toNat default)) fun r0=>.i (r0) (.k (.inl t8)) (.h (s,(),t7,(IntKind.i64.wrap (t8+1)),()) ())) .d) (.k (.inr ()))
def zfJ (zg:yC→Bool×Bool) (x:zb8) (y:Unit):Wy zb8 (Unit) (Int⊕Unit):=zmY zg x.1 x.2.2.1 x.2.2.2.1
def zmQ (zg:yC→Bool×Bool) (n:Nat) (s:yA) (t7:Int) (t8:Int):Bool×(Int⊕Unit):=zF (zfJ zg) (.inl default) n (s,(),t7,t8,()) ()
def zmV:LL ty zb8:=za (lSl 23) (za (lFn 127 (zn)) (za lI64 (za lI64 zn)))
def zmL (x:zb8) (y:Unit):Nat:=(x.1.length+Int.toNat x.2.2.1+Int.toNat x.2.2.2.1+1)
def zfK (zg:yC→Bool×Bool):Cx ty:=mkCx base 19 [(127,(zhF zg))] [] [(2,(kpL [0,1,7,8]))] [(2,1,[]),(2,0,(kpL [4]))] [(2,spW zmV z6c (zfJ zg) (.inl default) zs2 zmL)] []
theorem zmA (zg:yC→Bool×Bool):zK (zfK zg) (lp (body Tryz.f161) 0):=zu (id:=2) (hl:=rfl)
def zne (zg:yC→Bool×Bool) (s:yA):Wy0 (Int):=.bn (zmQ zg (s.length+(Int.ofNat s.length).toNat +Int.toNat 0+1) s (Int.ofNat s.length) 0) fun r2=>.i (isL r2) (.k (getL r2)) (.k (-1:Int))
def zcC (zg:yC→Bool×Bool) (s:yA):Bool×Int:=(zne zg s).fin default
theorem zlX (zg:yC→Bool×Bool) (zfY:SdP 127 (zhF zg)):SdP 161 (zcE (zcC zg)):=
 sW (cx':=(zfK zg)) zr zi zk (zj ⟨zfY,trivial⟩) Tryz.call161 Tryz.func161 (c:=body Tryz.f161) (lOK (aC (zmA zg) aN))
abbrev zcu:=yE×Unit×Int×Int×Unit
def zoz (zf:Weighted→Bool×Bool) (s:yE) (t7:Int) (t8:Int):Wy zcu (Unit) (Int⊕Unit):=.i (decide (t8<t7)) (.i (decide (0≤t8)&&decide (t8<Int.ofNat s.length)) (.bn (zf (s.getD t8.toNat default)) fun r0=>.i (r0) (.k (.inl t8)) (.h (s,(),t7,(IntKind.i64.wrap (t8+1)),()) ())) .d) (.k (.inr ()))
def zgL (zf:Weighted→Bool×Bool) (x:zcu) (y:Unit):Wy zcu (Unit) (Int⊕Unit):=zoz zf x.1 x.2.2.1 x.2.2.2.1
def zoM (zf:Weighted→Bool×Bool) (n:Nat) (s:yE) (t7:Int) (t8:Int):Bool×(Int⊕Unit):=zF (zgL zf) (.inl default) n (s,(),t7,t8,()) ()
def zoP:LL ty zcu:=za (lSl 100) (za (lFn 133 (zn)) (za lI64 (za lI64 zn)))
def zon (x:zcu) (y:Unit):Nat:=(x.1.length+Int.toNat x.2.2.1+Int.toNat x.2.2.2.1+1)
def zgB (zf:Weighted→Bool×Bool):Cx ty:=mkCx base 19 [(133,(zdB zf))] [] [(2,(kpL [0,1,7,8]))] [(2,1,[]),(2,0,(kpL [4]))] [(2,spW zoP z6c (zgL zf) (.inl default) zs2 zon)] []
theorem zod (zf:Weighted→Bool×Bool):zK (zgB zf) (lp (body Tryz.f163) 0):=zu (id:=2) (hl:=rfl)
def zpy (zf:Weighted→Bool×Bool) (s:yE):Wy0 (Int):=.bn (zoM zf (s.length+(Int.ofNat s.length).toNat +Int.toNat 0+1) s (Int.ofNat s.length) 0) fun r2=>.i (isL r2) (.k (getL r2)) (.k (-1:Int))
def zdh (zf:Weighted→Bool×Bool) (s:yE):Bool×Int:=(zpy zf s).fin default
theorem znH (zf:Weighted→Bool×Bool) (zfT:SdP 133 (zdB zf)):SdP 163 (zdb (zdh zf)):=
 sW (cx':=(zgB zf)) zr zi zk (zj ⟨zfT,trivial⟩) Tryz.call163 Tryz.func163 (c:=body Tryz.f163) (lOK (aC (zod zf) aN))
def zew:Nat→(yC→Bool×Bool)×(Atom→Bool×Bool)×(yC→Bool×Bool)×(Weighted→Bool×Bool)×(yA→Bool×Int)×(yA→Bool×Bool)×(yE→Bool×Int)×(yE→Bool×Bool)
 | 0=>(fun _=>(false,default),fun _=>(false,default),fun _=>(false,default),fun _=>(false,default),fun _=>(false,default),fun _=>(false,default),fun _=>(false,default),fun _=>(false,default))
 | n+1=>(zm5 ((zew n).2.1),zjx ((zew n).2.2.2.2.2.1) ((zew n).2.2.1) ((zew n).2.2.2.2.2.2.2) ((zew n).2.2.2.1),zkO ((zew n).1),zkG ((zew n).1),zcC ((zew n).2.2.1),zco ((zew n).2.2.1) ((zew n).2.2.2.2.1),zdh ((zew n).2.2.2.1),zcI ((zew n).2.2.2.1) ((zew n).2.2.2.2.2.2.1))
def zke (n:Nat):yC→Bool×Bool:=(zew n).1
def zmS (n:Nat):Atom→Bool×Bool:=(zew n).2.1
def zfd (n:Nat):yC→Bool×Bool:=(zew n).2.2.1
def zfc (n:Nat):Weighted→Bool×Bool:=(zew n).2.2.2.1
def zcD (n:Nat):yA→Bool×Int:=(zew n).2.2.2.2.1
def zcl (n:Nat):yA→Bool×Bool:=(zew n).2.2.2.2.2.1
def zde (n:Nat):yE→Bool×Int:=(zew n).2.2.2.2.2.2.1
def zcH (n:Nat):yE→Bool×Bool:=(zew n).2.2.2.2.2.2.2
theorem zQD (n:Nat):zke (n+1)=zm5 (zmS n):=rfl
theorem zJ8 (n:Nat):zmS (n+1)=zjx (zcl n) (zfd n) (zcH n) (zfc n):=rfl
theorem zFl (n:Nat):zfd (n+1)=zkO (zke n):=rfl
theorem zGe (n:Nat):zfc (n+1)=zkG (zke n):=rfl
theorem zmO (n:Nat):zcD (n+1)=zcC (zfd n):=rfl
theorem zlT (n:Nat):zcl (n+1)=zco (zfd n) (zcD n):=rfl
theorem zo3 (n:Nat):zde (n+1)=zdh (zfc n):=rfl
theorem znC (n:Nat):zcH (n+1)=zcI (zfc n) (zde n):=rfl
theorem zZl:∀ n,SdP 20 (zhF (zke n))∧SdP 66 (zmU (zmS n))∧SdP 127 (zhF (zfd n))∧SdP 133 (zdB (zfc n))∧SdP 161 (zcE (zcD n))∧SdP 126 (zcn (zcl n))∧SdP 163 (zdb (zde n))∧SdP 132 (zcG (zcH n))
 | 0=>⟨z6 Tryz.call20 (fun _=>rfl),z6 Tryz.call66 (fun _=>rfl),z6 Tryz.call127 (fun _=>rfl),z6 Tryz.call133 (fun _=>rfl),z6 Tryz.call161 (fun _=>rfl),z6 Tryz.call126 (fun _=>rfl),z6 Tryz.call163 (fun _=>rfl),z6 Tryz.call132 (fun _=>rfl)⟩
 | n+1=>by
  have ih:=zZl n;exact ⟨zLY _ (ih.2.1),zFN _ _ _ _ (ih.2.2.2.2.2.1) (ih.2.2.1) (ih.2.2.2.2.2.2.2) (ih.2.2.2.1),zDf _ (ih.1),zDh _ (ih.1),zlX _ (ih.2.2.1),zkX _ _ (ih.2.2.1) (ih.2.2.2.2.1),znH _ (ih.2.2.2.1),zmj _ _ (ih.2.2.2.1) (ih.2.2.2.2.2.2.1)⟩
def zbU:yC→Bool×Bool:=zke 1000
def annotation_Valid_spec:Ab.Spec ty:=zhF zbU
theorem zb9:SdP 20 annotation_Valid_spec:=(zZl 1000).1
def zOh (r:yC×Int):ARes ty:=⟨[.own 28 r.1,.pure (.lit (.int .i64 r.2))],[]⟩
def zSp:AL base0 (yC×((yG×Unit)×Unit)×Unit):=zd (ze (vSl 28)) (zd (ze (vFn 84 (zdH (vBox (zdH (vSl 51) vNil)) vNil))) aNil)
def zly (F:yC→yG→Bool×(yC×Int)):Ab.Spec ty:=zh zSp fun x=>((F x.1 x.2.1.1.1).1,zOh (F x.1 x.2.1.1.1).2)
def zKI:AL base0 (Atom×((yG×Unit)×Unit)×Unit):=zd (ze (vAgg 67)) (zd (ze (vFn 84 (zdH (vBox (zdH (vSl 51) vNil)) vNil))) aNil)
def zlk (F:Atom→yG→Bool×(yC×Int)):Ab.Spec ty:=zh zKI fun x=>((F x.1 x.2.1.1.1).1,zOh (F x.1 x.2.1.1.1).2)
def zD6 (k:Go.Value) (l:List (Go.Value×Int)):Option Int:=mget (ty:=ty) (V:=3) k l
def zbaM (k:Go.Value) (l:List (Go.Value×Int)):Bool:=mhas (ty:=ty) (V:=3) k l
def zbaQ (k:Go.Value) (x:Int) (l:List (Go.Value×Int)):List (Go.Value×Int):=mset (ty:=ty) (V:=3) k x l
def zUv (r:ByteArray):ARes ty:=⟨[.pure (.lit (.string r))],[]⟩
def zY8:AL base0 (yC×Unit):=zd (ze (vSl 28)) aNil
def zuZ (F:yC→Bool×ByteArray):Ab.Spec ty:=zh zY8 fun x=>((F x.1).1,zUv (F x.1).2)
def zNc:AL base0 (Atom×Unit):=zd (ze (vAgg 67)) aNil
def zl3 (F:Atom→Bool×ByteArray):Ab.Spec ty:=zh zNc fun x=>((F x.1).1,zUv (F x.1).2)
def zIl:AL base0 (yD×Unit):=zd (ze (vSl 69)) aNil
def zge (F:yD→Bool×ByteArray):Ab.Spec ty:=zh zIl fun x=>((F x.1).1,zUv (F x.1).2)
def zNe:Cx ty:=mkCx base 2 [] [] [] [] [] []
def zOq:Wy0 (List ByteArray):=.k [ByteArray.mk #[(67:UInt8),(79:UInt8),(85:UInt8),(78:UInt8),(84:UInt8)],ByteArray.mk #[(83:UInt8),(85:UInt8),(77:UInt8)],ByteArray.mk #[(77:UInt8),(73:UInt8),(78:UInt8)],ByteArray.mk #[(77:UInt8),(65:UInt8),(88:UInt8)]]
def zb2:Bool×List ByteArray:=(zOq).fin default
def zLg (r:List ByteArray):ARes ty:=⟨[.own 9 r],[]⟩
def zOI:AL base (Unit):=aNil
def zyS:Ab.Spec ty:=zh zOI fun x=>((zb2 ).1,zLg (zb2 ).2)
theorem zIJ:SdP 198 zyS:=
 sW (cx':=zNe) zr zi zk (zj trivial) Tryz.call198 Tryz.func198 (c:=body Tryz.f198) (lOK aN) (sg:=⟨[.own 9],[]⟩)
def zMI:Cx ty:=mkCx base 2 [] [] [] [] [] []
def zOX:Wy0 (List ByteArray):=.k [ByteArray.mk #[(61:UInt8)],ByteArray.mk #[(60:UInt8),(62:UInt8)],ByteArray.mk #[(60:UInt8)],ByteArray.mk #[(60:UInt8),(61:UInt8)],ByteArray.mk #[(62:UInt8)],ByteArray.mk #[(62:UInt8),(61:UInt8)]]
def zdQ:Bool×List ByteArray:=(zOX).fin default
def zza:Ab.Spec ty:=zh zOI fun x=>((zdQ ).1,zLg (zdQ ).2)
theorem zH8:SdP 199 zza:=
 sW (cx':=zMI) zr zi zk (zj trivial) Tryz.call199 Tryz.func199 (c:=body Tryz.f199) (lOK aN) (sg:=⟨[.own 9],[]⟩)
def strings_Join (l:List ByteArray) (sep:ByteArray):Bool×ByteArray:=zXE l sep
def strings_Join_spec:Ab.Spec ty:=zh (cx:=base0) (zd (ze (vSl 9)) (zd (ze vStr) aNil)) fun x=>((strings_Join x.1 x.2.1).1,⟨[.pure (.lit (.string (strings_Join x.1 x.2.1).2))],[]⟩)
theorem zAu:Sound Tryz.prog base0 169 strings_Join_spec:=zbaY (T:=9) zja rfl Go.Proofs.Tryz.lays156 Go.Proofs.Tryz.Builder_Extra_156 Tryz.call169 (fun s:ByteArray=>s) (fun _=>rfl) strings_Join (fun l sep=>congrArg (fun l=>zXE l sep) (List.map_id' (α:=ByteArray) l).symm)
def strconv_Itoa (x:Int):Bool×ByteArray:=zSN x
def strconv_Itoa_spec:Ab.Spec ty:=zh (cx:=base) (zd (ze (vInt .i64)) aNil) fun x=>((strconv_Itoa x.1).1,⟨[.pure (.lit (.string (strconv_Itoa x.1).2))],[]⟩)
theorem zGs:SdP 168 strconv_Itoa_spec:=zbad zi Go.Proofs.Tryz.laysM171 Tryz.call168 (fun _ h=>h.1)
end Go.Proofs.YtljlfiomikifjaaGreatDoor
end
