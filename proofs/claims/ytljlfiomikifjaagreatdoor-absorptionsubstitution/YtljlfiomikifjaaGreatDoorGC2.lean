/- Texts of this claim, joined (the program, its functions in plain words, and what they compute). -/
import Derived.Test.YtljlfiomikifjaaGreatDoorGC1
set_option autoImplicit false
set_option linter.unusedVariables false
set_option linter.unusedSectionVars false
set_option linter.unusedSimpArgs false
set_option maxRecDepth 1000000
set_option maxHeartbeats 0
noncomputable section
namespace Go.Proofs.YtljlfiomikifjaaGreatDoor
open Go Go.Ab
abbrev znM:=Int×Unit×yC×Int×Int×yD×Int×Int×yA×Int×Int×Unit
abbrev ztE:=Int×yC×Int×Int×yD×Int×Int×Factor
abbrev znN:=Int×yC×Int×Int×yD×Int×Int×yE×Int×Int×Unit
abbrev ztY:=Int×yC×Int×Int×yD×Int×Int
abbrev zne:=Int×yC×Int×Int×yD×Int×Int×Unit
abbrev zt1:=Int×yC×Int×Int
abbrev znO:=Int×yC×Int×Int×Unit
def zkx (zu:yC→Bool×Int) (n_:Int) (t12:yC) (t13:Int) (t14:Int) (t25:yD) (t26:Int) (t27:Int) (t33:yA) (t34:Int) (t35:Int) (f:Factor):Wy znM (Factor×Unit) ztE:=.i (decide (t35<t34)) (.i (decide (0≤t35)&&decide (t35<Int.ofNat t33.length)) (.bn (zu (t33.getD t35.toNat default)) fun r0=>.h ((IntKind.i64.wrap (n_+r0)),(),t12,t13,t14,t25,t26,t27,t33,t34,(IntKind.i64.wrap (t35+1)),()) (f,())) .d) (.k (n_,t12,t13,t14,t25,t26,t27,f))
def zvf (zu:yC→Bool×Int) (x:znM) (y:Factor×Unit):Wy znM (Factor×Unit) ztE:=zkx zu x.1 x.2.2.1 x.2.2.2.1 x.2.2.2.2.1 x.2.2.2.2.2.1 x.2.2.2.2.2.2.1 x.2.2.2.2.2.2.2.1 x.2.2.2.2.2.2.2.2.1 x.2.2.2.2.2.2.2.2.2.1 x.2.2.2.2.2.2.2.2.2.2.1 y.1
def zCK (zu:yC→Bool×Int) (n:Nat) (n_:Int) (t12:yC) (t13:Int) (t14:Int) (t25:yD) (t26:Int) (t27:Int) (t33:yA) (t34:Int) (t35:Int) (f:Factor):Bool×ztE:=zI (zvf zu) default n (n_,(),t12,t13,t14,t25,t26,t27,t33,t34,t35,()) (f,())
def zOk (r:ztE):LTree ty:=.done (.exit 4) [.lit (.int .i64 r.1),.ptr 248 0,.sl 28 r.2.1,.lit (.int .i64 r.2.2.1),.lit (.int .i64 r.2.2.2.1),.sl 69 r.2.2.2.2.1,.lit (.int .i64 r.2.2.2.2.2.1),.lit (.int .i64 r.2.2.2.2.2.2.1)] [.box (base.enc 69 r.2.2.2.2.2.2.2) false]
def zPK:LL ty znM:=za lI64 (za (zfl 248 0) (za (lSl 28) (za lI64 (za lI64 (za (lSl 69) (za lI64 (za lI64 (za (lSl 23) (za lI64 (za lI64 zp))))))))))
def zQX:BL ty (Factor×Unit):=bBox (zg1 (fun x=>(⟨⟨x.1,⟨x.2.1,x.2.2.1⟩,x.2.2.2.1,x.2.2.2.2.1,x.2.2.2.2.2.1,x.2.2.2.2.2.2.1,⟨x.2.2.2.2.2.2.2.1,x.2.2.2.2.2.2.2.2.1,x.2.2.2.2.2.2.2.2.2.1⟩⟩,x.2.2.2.2.2.2.2.2.2.2.1⟩:Factor)) (fun x=>(x.Atom.Kind,x.Atom.Row.Table,x.Atom.Row.Seq,x.Atom.Args,x.Atom.Func,x.Atom.Items,x.Atom.Op,x.Atom.Bound.Kind,x.Atom.Bound.Int,x.Atom.Bound.Text,x.Exp,())) (fun _=>rfl) (za (lInt .i64) (za (lInt .i64) (za (lInt .i64) (za (lSl 23) (za (lInt .i64) (za (lSl 100) (za (lInt .i64) (za (lInt .i64) (za (lInt .i64) (za lStr (za (lInt .i64) zp)))))))))))) false (bNil)
def zky (zu:yC→Bool×Int) (n_:Int) (t12:yC) (t13:Int) (t14:Int) (t25:yD) (t26:Int) (t27:Int) (t46:yE) (t47:Int) (t48:Int):Wy znN (Unit) ztY:=.i (decide (t48<t47)) (.i (decide (0≤t48)&&decide (t48<Int.ofNat t46.length)) (.bn (zu (t46.getD t48.toNat default).Ann) fun r2=>.h ((IntKind.i64.wrap (n_+IntKind.i64.wrap (1+r2))),t12,t13,t14,t25,t26,t27,t46,t47,(IntKind.i64.wrap (t48+1)),()) ()) .d) (.k (n_,t12,t13,t14,t25,t26,t27))
def zvR (zu:yC→Bool×Int) (x:znN) (y:Unit):Wy znN (Unit) ztY:=zky zu x.1 x.2.1 x.2.2.1 x.2.2.2.1 x.2.2.2.2.1 x.2.2.2.2.2.1 x.2.2.2.2.2.2.1 x.2.2.2.2.2.2.2.1 x.2.2.2.2.2.2.2.2.1 x.2.2.2.2.2.2.2.2.2.1
def zCM (zu:yC→Bool×Int) (n:Nat) (n_:Int) (t12:yC) (t13:Int) (t14:Int) (t25:yD) (t26:Int) (t27:Int) (t46:yE) (t47:Int) (t48:Int):Bool×ztY:=zI (zvR zu) default n (n_,t12,t13,t14,t25,t26,t27,t46,t47,t48,()) ()
def zOY (r:ztY):LTree ty:=.done (.exit 6) [.lit (.int .i64 r.1),.sl 28 r.2.1,.lit (.int .i64 r.2.2.1),.lit (.int .i64 r.2.2.2.1),.sl 69 r.2.2.2.2.1,.lit (.int .i64 r.2.2.2.2.2.1),.lit (.int .i64 r.2.2.2.2.2.2)] []
def zQf:LL ty znN:=za lI64 (za (lSl 28) (za lI64 (za lI64 (za (lSl 69) (za lI64 (za lI64 (za (lSl 100) (za lI64 (za lI64 zp)))))))))
def zlh (zu:yC→Bool×Int) (n_:Int) (t12:yC) (t13:Int) (t14:Int) (t25:yD) (t26:Int) (t27:Int):Wy zne (Unit) zt1:=.i (decide (t27<t26)) (.i (decide (0≤t27)&&decide (t27<Int.ofNat t25.length)) (.bn (zCK zu (n_.toNat +t12.length+t13.toNat +t14.toNat +t25.length+t26.toNat +t27.toNat +(t25.getD t27.toNat default).Atom.Args.length+(Int.ofNat (t25.getD t27.toNat default).Atom.Args.length).toNat +Int.toNat 0+(t25.getD t27.toNat default).Atom.Args.length+(t25.getD t27.toNat default).Atom.Items.length+1) n_ t12 t13 t14 t25 t26 t27 (t25.getD t27.toNat default).Atom.Args (Int.ofNat (t25.getD t27.toNat default).Atom.Args.length) 0 (FactorOf.mk (Atom.mk (t25.getD t27.toNat default).Atom.Kind (t25.getD t27.toNat default).Atom.Row (t25.getD t27.toNat default).Atom.Args (t25.getD t27.toNat default).Atom.Func (t25.getD t27.toNat default).Atom.Items (t25.getD t27.toNat default).Atom.Op (t25.getD t27.toNat default).Atom.Bound) (t25.getD t27.toNat default).Exp)) fun r5=>.bn (zCM zu (r5.1.toNat +r5.2.1.length+r5.2.2.1.toNat +r5.2.2.2.1.toNat +r5.2.2.2.2.1.length+r5.2.2.2.2.2.1.toNat +r5.2.2.2.2.2.2.1.toNat +r5.2.2.2.2.2.2.2.Atom.Items.length+(Int.ofNat r5.2.2.2.2.2.2.2.Atom.Items.length).toNat +Int.toNat 0+1) r5.1 r5.2.1 r5.2.2.1 r5.2.2.2.1 r5.2.2.2.2.1 r5.2.2.2.2.2.1 r5.2.2.2.2.2.2.1 r5.2.2.2.2.2.2.2.Atom.Items (Int.ofNat r5.2.2.2.2.2.2.2.Atom.Items.length) 0) fun r4=>.h ((r4.1),(r4.2.1),(r4.2.2.1),(r4.2.2.2.1),(r4.2.2.2.2.1),(r4.2.2.2.2.2.1),(IntKind.i64.wrap (r4.2.2.2.2.2.2+1)),()) ()) .d) (.k (n_,t12,t13,t14))
def zw6 (zu:yC→Bool×Int) (x:zne) (y:Unit):Wy zne (Unit) zt1:=zlh zu x.1 x.2.1 x.2.2.1 x.2.2.2.1 x.2.2.2.2.1 x.2.2.2.2.2.1 x.2.2.2.2.2.2.1
def zDF (zu:yC→Bool×Int) (n:Nat) (n_:Int) (t12:yC) (t13:Int) (t14:Int) (t25:yD) (t26:Int) (t27:Int):Bool×zt1:=zI (zw6 zu) default n (n_,t12,t13,t14,t25,t26,t27,()) ()
def zPD (r:zt1):LTree ty:=.done (.exit 2) [.lit (.int .i64 r.1),.sl 28 r.2.1,.lit (.int .i64 r.2.2.1),.lit (.int .i64 r.2.2.2)] []
def zRj:LL ty zne:=za lI64 (za (lSl 28) (za lI64 (za lI64 (za (lSl 69) (za lI64 (za lI64 zp))))))
def zlu (zu:yC→Bool×Int) (n_:Int) (t12:yC) (t13:Int) (t14:Int):Wy znO (Unit) (Int):=.i (decide (t14<t13)) (.i (decide (0≤t14)&&decide (t14<Int.ofNat t12.length)) (.bn (zDF zu ((IntKind.i64.wrap (n_+IntKind.i64.wrap (1+Int.ofNat (t12.getD t14.toNat default).Factors.length))).toNat +t12.length+t13.toNat +t14.toNat +(t12.getD t14.toNat default).Factors.length+(Int.ofNat (t12.getD t14.toNat default).Factors.length).toNat +Int.toNat 0+1) (IntKind.i64.wrap (n_+IntKind.i64.wrap (1+Int.ofNat (t12.getD t14.toNat default).Factors.length))) t12 t13 t14 (t12.getD t14.toNat default).Factors (Int.ofNat (t12.getD t14.toNat default).Factors.length) 0) fun r8=>.h ((r8.1),(r8.2.1),(r8.2.2.1),(IntKind.i64.wrap (r8.2.2.2+1)),()) ()) .d) (.k n_)
def zxb (zu:yC→Bool×Int) (x:znO) (y:Unit):Wy znO (Unit) (Int):=zlu zu x.1 x.2.1 x.2.2.1 x.2.2.2.1
def zEu (zu:yC→Bool×Int) (n:Nat) (n_:Int) (t12:yC) (t13:Int) (t14:Int):Bool×Int:=zI (zxb zu) default n (n_,t12,t13,t14,()) ()
def zPa (r:Int):LTree ty:=.done (.exit 0) [.lit (.int .i64 r)] []
def zQ7:LL ty znO:=za lI64 (za (lSl 28) (za lI64 (za lI64 zp)))
def zOv (x:znM) (y:Factor×Unit):Nat:=(Int.toNat x.1+x.2.2.1.length+Int.toNat x.2.2.2.1+Int.toNat x.2.2.2.2.1+x.2.2.2.2.2.1.length+Int.toNat x.2.2.2.2.2.2.1+Int.toNat x.2.2.2.2.2.2.2.1+x.2.2.2.2.2.2.2.2.1.length+Int.toNat x.2.2.2.2.2.2.2.2.2.1+Int.toNat x.2.2.2.2.2.2.2.2.2.2.1+y.1.Atom.Args.length+y.1.Atom.Items.length+1)
def zOz (x:znN) (y:Unit):Nat:=(Int.toNat x.1+x.2.1.length+Int.toNat x.2.2.1+Int.toNat x.2.2.2.1+x.2.2.2.2.1.length+Int.toNat x.2.2.2.2.2.1+Int.toNat x.2.2.2.2.2.2.1+x.2.2.2.2.2.2.2.1.length+Int.toNat x.2.2.2.2.2.2.2.2.1+Int.toNat x.2.2.2.2.2.2.2.2.2.1+1)
def zQR (x:zne) (y:Unit):Nat:=(Int.toNat x.1+x.2.1.length+Int.toNat x.2.2.1+Int.toNat x.2.2.2.1+x.2.2.2.2.1.length+Int.toNat x.2.2.2.2.2.1+Int.toNat x.2.2.2.2.2.2.1+1)
def zQh (x:znO) (y:Unit):Nat:=(Int.toNat x.1+x.2.1.length+Int.toNat x.2.2.1+Int.toNat x.2.2.2.1+1)
def zlq (zu:yC→Bool×Int):Cx ty:=mkCx base 62 [(115,(zoI zu))] [] [(3,(kpL [3,12,13,14])),(7,(kpL [3,12,13,14,25,26,27])),(10,(kpL [3,7,12,13,14,25,26,27,33,34,35])),(15,(kpL [3,12,13,14,25,26,27,46,47,48]))] [(3,1,(kpL [3])),(7,3,(kpL [3,12,13,14])),(10,5,(kpL [3,7,12,13,14,25,26,27])),(15,7,(kpL [3,12,13,14,25,26,27]))] [(10,spW zPK zQX (zvf zu) default zOk zOv),(15,spW zQf z5G (zvR zu) default zOY zOz),(7,spW zRj z5G (zw6 zu) default zPD zQR),(3,spW zQ7 z5G (zxb zu) default zPa zQh)] []
theorem zOy (zu:yC→Bool×Int):zL (zlq zu) (lp (body Tryz.f115) 2):=zw (id:=10) (hl:=rfl)
theorem zNY (zu:yC→Bool×Int):zL (zlq zu) (lp (body Tryz.f115) 3):=zw (id:=15) (hl:=rfl)
theorem zQK (zu:yC→Bool×Int):zL (zlq zu) (lp (body Tryz.f115) 1):=zw (id:=7) (hl:=rfl)
theorem zQl (zu:yC→Bool×Int):zL (zlq zu) (lp (body Tryz.f115) 0):=zw (id:=3) (hl:=rfl)
def zFa (zu:yC→Bool×Int) (a:yC):Wy0 (Int):=.bn (zEu zu (Int.toNat 0+a.length+(Int.ofNat a.length).toNat +Int.toNat 0+1) 0 a (Int.ofNat a.length) 0) fun r10=>.k r10
def zuU (zu:yC→Bool×Int) (a:yC):Bool×Int:=(zFa zu a).fin default
theorem zMT (zu:yC→Bool×Int) (zT9:SdP 115 (zoI zu)):SdP 115 (zoI (zuU zu)):=
 sW (cx':=(zlq zu)) zq zi zl (zj ⟨zT9,trivial⟩) Tryz.call115 Tryz.func115 (c:=body Tryz.f115) (lOK (aC (zQl zu) (aC (zQK zu) (aC (zOy zu) (aC (zNY zu) aN)))))
def z62:Nat→(yC→Bool×Int)
 | 0=>fun _=>(false,default)
 | n+1=>zuU (z62 n)
def zlP (n:Nat):yC→Bool×Int:=z62 n
theorem zQ1 (n:Nat):zlP (n+1)=zuU (zlP n):=rfl
theorem z1C:∀ n,SdP 115 (zoI (zlP n))
 | 0=>z6 Tryz.call115 (fun _=>rfl)
 | n+1=>by
  have ih:=z1C n;exact zMT _ (ih)
def zD8:yC→Bool×Int:=zlP 1000
def annotation_Size_spec:Ab.Spec ty:=zoI zD8
theorem zQo:SdP 115 annotation_Size_spec:=(z1C 1000)
abbrev zkj:=Int×Unit×Int×yC×Int×Int×yD×Int×Int×yA×Int×Int×Unit
abbrev zn7:=Int×Int×yC×Int×Int×yD×Int×Int×Factor
abbrev zkh:=Int×Int×yC×Int×Int×yD×Int×Int×yE×Int×Int×Unit
abbrev znZ:=Int×Int×yC×Int×Int×yD×Int×Int
abbrev zj8:=Int×yC×Int×Int×yD×Int×Int×Unit
abbrev zn4:=Int×yC×Int×Int
abbrev zkm:=Int×yC×Int×Int×Unit
def zhL (zm:yC→Bool×Int) (n_:Int) (inner:Int) (t13:yC) (t14:Int) (t15:Int) (t20:yD) (t21:Int) (t22:Int) (t32:yA) (t33:Int) (t34:Int) (f:Factor):Wy zkj (Factor×Unit) zn7:=.i (decide (t34<t33)) (.i (decide (0≤t34)&&decide (t34<Int.ofNat t32.length)) (.bn (zm (t32.getD t34.toNat default)) fun r0=>.h (n_,(),(if r0>inner then r0 else inner),t13,t14,t15,t20,t21,t22,t32,t33,(IntKind.i64.wrap (t34+1)),()) (f,())) .d) (.k (n_,inner,t13,t14,t15,t20,t21,t22,f))
def zqI (zm:yC→Bool×Int) (x:zkj) (y:Factor×Unit):Wy zkj (Factor×Unit) zn7:=zhL zm x.1 x.2.2.1 x.2.2.2.1 x.2.2.2.2.1 x.2.2.2.2.2.1 x.2.2.2.2.2.2.1 x.2.2.2.2.2.2.2.1 x.2.2.2.2.2.2.2.2.1 x.2.2.2.2.2.2.2.2.2.1 x.2.2.2.2.2.2.2.2.2.2.1 x.2.2.2.2.2.2.2.2.2.2.2.1 y.1
def zzB (zm:yC→Bool×Int) (n:Nat) (n_:Int) (inner:Int) (t13:yC) (t14:Int) (t15:Int) (t20:yD) (t21:Int) (t22:Int) (t32:yA) (t33:Int) (t34:Int) (f:Factor):Bool×zn7:=zI (zqI zm) default n (n_,(),inner,t13,t14,t15,t20,t21,t22,t32,t33,t34,()) (f,())
def zJX (r:zn7):LTree ty:=.done (.exit 4) [.lit (.int .i64 r.1),.ptr 256 0,.lit (.int .i64 r.2.1),.sl 28 r.2.2.1,.lit (.int .i64 r.2.2.2.1),.lit (.int .i64 r.2.2.2.2.1),.sl 69 r.2.2.2.2.2.1,.lit (.int .i64 r.2.2.2.2.2.2.1),.lit (.int .i64 r.2.2.2.2.2.2.2.1)] [.box (base.enc 69 r.2.2.2.2.2.2.2.2) false]
def zLx:LL ty zkj:=za lI64 (za (zfl 256 0) (za lI64 (za (lSl 28) (za lI64 (za lI64 (za (lSl 69) (za lI64 (za lI64 (za (lSl 23) (za lI64 (za lI64 zp)))))))))))
def zhR (zm:yC→Bool×Int) (n_:Int) (inner:Int) (t13:yC) (t14:Int) (t15:Int) (t20:yD) (t21:Int) (t22:Int) (t45:yE) (t46:Int) (t47:Int):Wy zkh (Unit) znZ:=.i (decide (t47<t46)) (.i (decide (0≤t47)&&decide (t47<Int.ofNat t45.length)) (.bn (zm (t45.getD t47.toNat default).Ann) fun r2=>.h (n_,(if r2>inner then r2 else inner),t13,t14,t15,t20,t21,t22,t45,t46,(IntKind.i64.wrap (t47+1)),()) ()) .d) (.k (n_,inner,t13,t14,t15,t20,t21,t22))
def zqN (zm:yC→Bool×Int) (x:zkh) (y:Unit):Wy zkh (Unit) znZ:=zhR zm x.1 x.2.1 x.2.2.1 x.2.2.2.1 x.2.2.2.2.1 x.2.2.2.2.2.1 x.2.2.2.2.2.2.1 x.2.2.2.2.2.2.2.1 x.2.2.2.2.2.2.2.2.1 x.2.2.2.2.2.2.2.2.2.1 x.2.2.2.2.2.2.2.2.2.2.1
def zAi (zm:yC→Bool×Int) (n:Nat) (n_:Int) (inner:Int) (t13:yC) (t14:Int) (t15:Int) (t20:yD) (t21:Int) (t22:Int) (t45:yE) (t46:Int) (t47:Int):Bool×znZ:=zI (zqN zm) default n (n_,inner,t13,t14,t15,t20,t21,t22,t45,t46,t47,()) ()
def zJn (r:znZ):LTree ty:=.done (.exit 6) [.lit (.int .i64 r.1),.lit (.int .i64 r.2.1),.sl 28 r.2.2.1,.lit (.int .i64 r.2.2.2.1),.lit (.int .i64 r.2.2.2.2.1),.sl 69 r.2.2.2.2.2.1,.lit (.int .i64 r.2.2.2.2.2.2.1),.lit (.int .i64 r.2.2.2.2.2.2.2)] []
def zLu:LL ty zkh:=za lI64 (za lI64 (za (lSl 28) (za lI64 (za lI64 (za (lSl 69) (za lI64 (za lI64 (za (lSl 100) (za lI64 (za lI64 zp))))))))))
def ziR (zm:yC→Bool×Int) (n_:Int) (t13:yC) (t14:Int) (t15:Int) (t20:yD) (t21:Int) (t22:Int):Wy zj8 (Unit) zn4:=.i (decide (t22<t21)) (.i (decide (0≤t22)&&decide (t22<Int.ofNat t20.length)) (.i ((t20.getD t22.toNat default).Atom.Kind==0) (.h (n_,t13,t14,t15,t20,t21,(IntKind.i64.wrap (t22+1)),()) ()) (.bn (zzB zm (n_.toNat +Int.toNat 0+t13.length+t14.toNat +t15.toNat +t20.length+t21.toNat +t22.toNat +(t20.getD t22.toNat default).Atom.Args.length+(Int.ofNat (t20.getD t22.toNat default).Atom.Args.length).toNat +Int.toNat 0+(t20.getD t22.toNat default).Atom.Args.length+(t20.getD t22.toNat default).Atom.Items.length+1) n_ 0 t13 t14 t15 t20 t21 t22 (t20.getD t22.toNat default).Atom.Args (Int.ofNat (t20.getD t22.toNat default).Atom.Args.length) 0 (FactorOf.mk (Atom.mk (t20.getD t22.toNat default).Atom.Kind (t20.getD t22.toNat default).Atom.Row (t20.getD t22.toNat default).Atom.Args (t20.getD t22.toNat default).Atom.Func (t20.getD t22.toNat default).Atom.Items (t20.getD t22.toNat default).Atom.Op (t20.getD t22.toNat default).Atom.Bound) (t20.getD t22.toNat default).Exp)) fun r5=>.bn (zAi zm (r5.1.toNat +r5.2.1.toNat +r5.2.2.1.length+r5.2.2.2.1.toNat +r5.2.2.2.2.1.toNat +r5.2.2.2.2.2.1.length+r5.2.2.2.2.2.2.1.toNat +r5.2.2.2.2.2.2.2.1.toNat +r5.2.2.2.2.2.2.2.2.Atom.Items.length+(Int.ofNat r5.2.2.2.2.2.2.2.2.Atom.Items.length).toNat +Int.toNat 0+1) r5.1 r5.2.1 r5.2.2.1 r5.2.2.2.1 r5.2.2.2.2.1 r5.2.2.2.2.2.1 r5.2.2.2.2.2.2.1 r5.2.2.2.2.2.2.2.1 r5.2.2.2.2.2.2.2.2.Atom.Items (Int.ofNat r5.2.2.2.2.2.2.2.2.Atom.Items.length) 0) fun r4=>.h ((if IntKind.i64.wrap (1+r4.2.1)>r4.1 then IntKind.i64.wrap (1+r4.2.1) else r4.1),(r4.2.2.1),(r4.2.2.2.1),(r4.2.2.2.2.1),(r4.2.2.2.2.2.1),(r4.2.2.2.2.2.2.1),(IntKind.i64.wrap (r4.2.2.2.2.2.2.2+1)),()) ())) .d) (.k (n_,t13,t14,t15))
def zsF (zm:yC→Bool×Int) (x:zj8) (y:Unit):Wy zj8 (Unit) zn4:=ziR zm x.1 x.2.1 x.2.2.1 x.2.2.2.1 x.2.2.2.2.1 x.2.2.2.2.2.1 x.2.2.2.2.2.2.1
def zAW (zm:yC→Bool×Int) (n:Nat) (n_:Int) (t13:yC) (t14:Int) (t15:Int) (t20:yD) (t21:Int) (t22:Int):Bool×zn4:=zI (zsF zm) default n (n_,t13,t14,t15,t20,t21,t22,()) ()
def zMb (r:zn4):LTree ty:=.done (.exit 2) [.lit (.int .i64 r.1),.sl 28 r.2.1,.lit (.int .i64 r.2.2.1),.lit (.int .i64 r.2.2.2)] []
def zMS:LL ty zj8:=za lI64 (za (lSl 28) (za lI64 (za lI64 (za (lSl 69) (za lI64 (za lI64 zp))))))
def ziF (zm:yC→Bool×Int) (n_:Int) (t13:yC) (t14:Int) (t15:Int):Wy zkm (Unit) (Int):=.i (decide (t15<t14)) (.i (decide (0≤t15)&&decide (t15<Int.ofNat t13.length)) (.bn (zAW zm (n_.toNat +t13.length+t14.toNat +t15.toNat +(t13.getD t15.toNat default).Factors.length+(Int.ofNat (t13.getD t15.toNat default).Factors.length).toNat +Int.toNat 0+1) n_ t13 t14 t15 (t13.getD t15.toNat default).Factors (Int.ofNat (t13.getD t15.toNat default).Factors.length) 0) fun r8=>.h ((r8.1),(r8.2.1),(r8.2.2.1),(IntKind.i64.wrap (r8.2.2.2+1)),()) ()) .d) (.k n_)
def zsD (zm:yC→Bool×Int) (x:zkm) (y:Unit):Wy zkm (Unit) (Int):=ziF zm x.1 x.2.1 x.2.2.1 x.2.2.2.1
def zA1 (zm:yC→Bool×Int) (n:Nat) (n_:Int) (t13:yC) (t14:Int) (t15:Int):Bool×Int:=zI (zsD zm) default n (n_,t13,t14,t15,()) ()
def zM2:LL ty zkm:=za lI64 (za (lSl 28) (za lI64 (za lI64 zp)))
def zJp (x:zkj) (y:Factor×Unit):Nat:=(Int.toNat x.1+Int.toNat x.2.2.1+x.2.2.2.1.length+Int.toNat x.2.2.2.2.1+Int.toNat x.2.2.2.2.2.1+x.2.2.2.2.2.2.1.length+Int.toNat x.2.2.2.2.2.2.2.1+Int.toNat x.2.2.2.2.2.2.2.2.1+x.2.2.2.2.2.2.2.2.2.1.length+Int.toNat x.2.2.2.2.2.2.2.2.2.2.1+Int.toNat x.2.2.2.2.2.2.2.2.2.2.2.1+y.1.Atom.Args.length+y.1.Atom.Items.length+1)
def zJQ (x:zkh) (y:Unit):Nat:=(Int.toNat x.1+Int.toNat x.2.1+x.2.2.1.length+Int.toNat x.2.2.2.1+Int.toNat x.2.2.2.2.1+x.2.2.2.2.2.1.length+Int.toNat x.2.2.2.2.2.2.1+Int.toNat x.2.2.2.2.2.2.2.1+x.2.2.2.2.2.2.2.2.1.length+Int.toNat x.2.2.2.2.2.2.2.2.2.1+Int.toNat x.2.2.2.2.2.2.2.2.2.2.1+1)
def zLk (x:zj8) (y:Unit):Nat:=(Int.toNat x.1+x.2.1.length+Int.toNat x.2.2.1+Int.toNat x.2.2.2.1+x.2.2.2.2.1.length+Int.toNat x.2.2.2.2.2.1+Int.toNat x.2.2.2.2.2.2.1+1)
def zLb (x:zkm) (y:Unit):Nat:=(Int.toNat x.1+x.2.1.length+Int.toNat x.2.2.1+Int.toNat x.2.2.2.1+1)
def zi4 (zm:yC→Bool×Int):Cx ty:=mkCx base 64 [(114,(zoI zm))] [] [(3,(kpL [3,13,14,15])),(6,(kpL [3,13,14,15,20,21,22])),(11,(kpL [3,7,8,13,14,15,20,21,22,32,33,34])),(16,(kpL [3,8,13,14,15,20,21,22,45,46,47]))] [(3,1,(kpL [3])),(6,3,(kpL [3,13,14,15])),(11,5,(kpL [3,7,8,13,14,15,20,21,22])),(16,7,(kpL [3,8,13,14,15,20,21,22]))] [(11,spW zLx zQX (zqI zm) default zJX zJp),(16,spW zLu z5G (zqN zm) default zJn zJQ),(6,spW zMS z5G (zsF zm) default zMb zLk),(3,spW zM2 z5G (zsD zm) default zPa zLb)] []
theorem zJt (zm:yC→Bool×Int):zL (zi4 zm) (lp (body Tryz.f114) 2):=zw (id:=11) (hl:=rfl)
theorem zJ9 (zm:yC→Bool×Int):zL (zi4 zm) (lp (body Tryz.f114) 3):=zw (id:=16) (hl:=rfl)
theorem zLD (zm:yC→Bool×Int):zL (zi4 zm) (lp (body Tryz.f114) 1):=zw (id:=6) (hl:=rfl)
theorem zK7 (zm:yC→Bool×Int):zL (zi4 zm) (lp (body Tryz.f114) 0):=zw (id:=3) (hl:=rfl)
def zBJ (zm:yC→Bool×Int) (a:yC):Wy0 (Int):=.bn (zA1 zm (Int.toNat 0+a.length+(Int.ofNat a.length).toNat +Int.toNat 0+1) 0 a (Int.ofNat a.length) 0) fun r10=>.k r10
def zpL (zm:yC→Bool×Int) (a:yC):Bool×Int:=(zBJ zm a).fin default
theorem zIu (zm:yC→Bool×Int) (zN4:SdP 114 (zoI zm)):SdP 114 (zoI (zpL zm)):=
 sW (cx':=(zi4 zm)) zq zi zl (zj ⟨zN4,trivial⟩) Tryz.call114 Tryz.func114 (c:=body Tryz.f114) (lOK (aC (zK7 zm) (aC (zLD zm) (aC (zJt zm) (aC (zJ9 zm) aN)))))
def zZw:Nat→(yC→Bool×Int)
 | 0=>fun _=>(false,default)
 | n+1=>zpL (zZw n)
def zgb (n:Nat):yC→Bool×Int:=zZw n
theorem zMW (n:Nat):zgb (n+1)=zpL (zgb n):=rfl
theorem zSN:∀ n,SdP 114 (zoI (zgb n))
 | 0=>z6 Tryz.call114 (fun _=>rfl)
 | n+1=>by
  have ih:=zSN n;exact zIu _ (ih)
def zzJ:yC→Bool×Int:=zgb 1000
def annotation_nesting_spec:Ab.Spec ty:=zoI zzJ
theorem zLa:SdP 114 annotation_nesting_spec:=(zSN 1000)
def zH2:Cx ty:=mkCx base 13 [] [] [] [] [] []
def zyY (f:Factor):Wy0 (Bool):=.i (decide (f.Exp>64)) (.k true) (.k (decide (Int.ofNat f.Atom.Items.length>1024)))
def zf3 (f:Factor):Bool×Bool:=(zyY f).fin default
def zJ0:AL base (Factor×Unit):=zd (ze (vAgg 69)) aNil
def ziq:Ab.Spec ty:=zh zJ0 fun x=>((zf3 x.1).1,zTP (zf3 x.1).2)
theorem zlZ:SdP 117 ziq:=
 sW (cx':=zH2) zq zi zl (zj trivial) Tryz.call117 Tryz.func117 (c:=body Tryz.f117) (lOK aN)
abbrev zc9:=yD×Unit×Int×Int×Unit
def zjn (s:yD) (t7:Int) (t8:Int):Wy zc9 (Unit) (Int⊕Unit):=.i (decide (t8<t7)) (.i (decide (0≤t8)&&decide (t8<Int.ofNat s.length)) (.bn (zf3 (FactorOf.mk (Atom.mk (s.getD t8.toNat default).Atom.Kind (s.getD t8.toNat default).Atom.Row (s.getD t8.toNat default).Atom.Args (s.getD t8.toNat default).Atom.Func (s.getD t8.toNat default).Atom.Items (s.getD t8.toNat default).Atom.Op (s.getD t8.toNat default).Atom.Bound) (s.getD t8.toNat default).Exp)) fun r0=>.i (r0) (.k (.inl t8)) (.h (s,(),t7,(IntKind.i64.wrap (t8+1)),()) ())) .d) (.k (.inr ()))
def zdE (x:zc9) (y:Unit):Wy zc9 (Unit) (Int⊕Unit):=zjn x.1 x.2.2.1 x.2.2.2.1
def zjj (n:Nat) (s:yD) (t7:Int) (t8:Int):Bool×(Int⊕Unit):=zI (zdE) (.inl default) n (s,(),t7,t8,()) ()
def zsS (r:Int⊕Unit):LTree ty:=.ite (isL r) (.done .ret [.lit (.int .i64 (getL r))] []) (.done (.exit 0) [] [])
def ztV:LL ty zc9:=za (lSl 69) (za (lFn 117 (zp)) (za lI64 (za lI64 zp)))
def zsX (x:zc9) (y:Unit):Nat:=(x.1.length+Int.toNat x.2.2.1+Int.toNat x.2.2.2.1+1)
def zjo:Cx ty:=mkCx base 19 [(117,ziq)] [] [(2,(kpL [0,1,7,8]))] [(2,1,[]),(2,0,(kpL [4]))] [(2,spW ztV z5G (zdE) (.inl default) zsS zsX)] []
theorem zs2:zL zjo (lp (body Tryz.f103) 0):=zw (id:=2) (hl:=rfl)
def zjE (s:yD):Wy0 (Int):=.bn (zjj (s.length+(Int.ofNat s.length).toNat +Int.toNat 0+1) s (Int.ofNat s.length) 0) fun r2=>.i (isL r2) (.k (getL r2)) (.k (-1:Int))
def zcN (s:yD):Bool×Int:=(zjE s).fin default
def zuz:AL base (yD×Unit×Unit):=zd (ze (vSl 69)) (zd (ze (vFn 117 vNil)) aNil)
def zif:Ab.Spec ty:=zh zuz fun x=>((zcN x.1).1,zO3 (zcN x.1).2)
theorem zrt:SdP 103 zif:=
 sW (cx':=zjo) zq zi zl (zj ⟨zlZ,trivial⟩) Tryz.call103 Tryz.func103 (c:=body Tryz.f103) (lOK (aC zs2 aN))
def zq9:Cx ty:=mkCx base 9 [(103,zif),(117,ziq)] [] [] [] [] []
def zin (s:yD):Wy0 (Bool):=.bn (zcN s) fun r0=>.k (decide (r0≥0))
def zcp (s:yD):Bool×Bool:=(zin s).fin default
def zg3:Ab.Spec ty:=zh zuz fun x=>((zcp x.1).1,zTP (zcp x.1).2)
theorem zo2:SdP 49 zg3:=
 sW (cx':=zq9) zq zi zl (zj ⟨zrt,zlZ,trivial⟩) Tryz.call49 Tryz.func49 (c:=body Tryz.f49) (lOK aN)
def zMB:Cx ty:=mkCx base 12 [(49,zg3),(117,ziq)] [] [] [] [] []
def zBS (t:Term):Wy0 (Bool):=.i (decide (Int.ofNat t.Factors.length>64)) (.k true) (.bn (zcp t.Factors) fun r0=>.k r0)
def zli (t:Term):Bool×Bool:=(zBS t).fin default
def zNO:AL base (Term×Unit):=zd (ze (vAgg 28)) aNil
def zkM:Ab.Spec ty:=zh zNO fun x=>((zli x.1).1,zTP (zli x.1).2)
theorem zom:SdP 116 zkM:=
 sW (cx':=zMB) zq zi zl (zj ⟨zo2,zlZ,trivial⟩) Tryz.call116 Tryz.func116 (c:=body Tryz.f116) (lOK aN)
abbrev zcW:=yC×Unit×Int×Int×Unit
def zsO (s:yC) (t7:Int) (t8:Int):Wy zcW (Unit) (Int⊕Unit):=.i (decide (t8<t7)) (.i (decide (0≤t8)&&decide (t8<Int.ofNat s.length)) (.bn (zli (s.getD t8.toNat default)) fun r0=>.i (r0) (.k (.inl t8)) (.h (s,(),t7,(IntKind.i64.wrap (t8+1)),()) ())) .d) (.k (.inr ()))
def ziG (x:zcW) (y:Unit):Wy zcW (Unit) (Int⊕Unit):=zsO x.1 x.2.2.1 x.2.2.2.1
def zsR (n:Nat) (s:yC) (t7:Int) (t8:Int):Bool×(Int⊕Unit):=zI (ziG) (.inl default) n (s,(),t7,t8,()) ()
def zs6:LL ty zcW:=za (lSl 28) (za (lFn 116 (zp)) (za lI64 (za lI64 zp)))
def zr8 (x:zcW) (y:Unit):Nat:=(x.1.length+Int.toNat x.2.2.1+Int.toNat x.2.2.2.1+1)
def ziP:Cx ty:=mkCx base 19 [(116,zkM)] [] [(2,(kpL [0,1,7,8]))] [(2,1,[]),(2,0,(kpL [4]))] [(2,spW zs6 z5G (ziG) (.inl default) zsS zr8)] []
theorem zrX:zL ziP (lp (body Tryz.f113) 0):=zw (id:=2) (hl:=rfl)
def ztt (s:yC):Wy0 (Int):=.bn (zsR (s.length+(Int.ofNat s.length).toNat +Int.toNat 0+1) s (Int.ofNat s.length) 0) fun r2=>.i (isL r2) (.k (getL r2)) (.k (-1:Int))
def zd0 (s:yC):Bool×Int:=(ztt s).fin default
def zti:AL base (yC×Unit×Unit):=zd (ze (vSl 28)) (zd (ze (vFn 116 vNil)) aNil)
def zhD:Ab.Spec ty:=zh zti fun x=>((zd0 x.1).1,zO3 (zd0 x.1).2)
theorem zqz:SdP 113 zhD:=
 sW (cx':=ziP) zq zi zl (zj ⟨zom,trivial⟩) Tryz.call113 Tryz.func113 (c:=body Tryz.f113) (lOK (aC zrX aN))
def zql:Cx ty:=mkCx base 9 [(113,zhD),(116,zkM)] [] [] [] [] []
def zh1 (s:yC):Wy0 (Bool):=.bn (zd0 s) fun r0=>.k (decide (r0≥0))
def zcj (s:yC):Bool×Bool:=(zh1 s).fin default
def zgF:Ab.Spec ty:=zh zti fun x=>((zcj x.1).1,zTP (zcj x.1).2)
theorem zov:SdP 59 zgF:=
 sW (cx':=zql) zq zi zl (zj ⟨zqz,zom,trivial⟩) Tryz.call59 Tryz.func59 (c:=body Tryz.f59) (lOK aN)
def zSl:Cx ty:=mkCx base 19 [(59,zgF),(114,annotation_nesting_spec),(115,annotation_Size_spec),(116,zkM)] [] [] [] [] []
def zE5 (a:yC):Wy0 (Bool):=.i (decide (Int.ofNat a.length>512)) (.k false) (.bn (zzJ a) fun r2=>.i (decide (r2>8)) (.k false) (.bn (zD8 a) fun r1=>.i (decide (r1>4096)) (.k false) (.bn (zcj a) fun r0=>.k (!r0))))
def zlN (a:yC):Bool×Bool:=(zE5 a).fin default
def zua:Ab.Spec ty:=zh zVO fun x=>((zlN x.1).1,zTP (zlN x.1).2)
theorem zA4:SdP 62 zua:=
 sW (cx':=zSl) zq zi zl (zj ⟨zov,zLa,zQo,zom,trivial⟩) Tryz.call62 Tryz.func62 (c:=body Tryz.f62) (lOK aN)
abbrev zmj:=yC×Unit×yC×Int×Int×yD×Int×Int×Unit
abbrev zrK:=Bool⊕(yC×yC×Int×Int)
abbrev zmy:=yC×yC×Int×Int×Unit
def zkr (zC:Atom→Bool×Bool) (a:yC) (t10:yC) (t11:Int) (t12:Int) (t40:yD) (t41:Int) (t42:Int) (t:Term):Wy zmj (Term×Unit) zrK:=.i (decide (t42<t41)) (.i (decide (0≤t42)&&decide (t42<Int.ofNat t40.length)) (.i (decide ((t40.getD t42.toNat default).Exp<1)) (.k (.inl false)) (.bn (zfC (Atom.mk (t40.getD t42.toNat default).Atom.Kind (t40.getD t42.toNat default).Atom.Row (t40.getD t42.toNat default).Atom.Args (t40.getD t42.toNat default).Atom.Func (t40.getD t42.toNat default).Atom.Items (t40.getD t42.toNat default).Atom.Op (t40.getD t42.toNat default).Atom.Bound)) fun r6=>.i (r6) (.i ((t40.getD t42.toNat default).Exp != 1) (.k (.inl false)) (.i (decide (t42>0)) (.i (decide (0≤IntKind.i64.wrap (t42 - 1))&&decide (IntKind.i64.wrap (t42 - 1)<Int.ofNat t.Factors.length)) (.bn (ziT (Atom.mk (t.Factors.getD (IntKind.i64.wrap (t42 - 1)).toNat default).Atom.Kind (t.Factors.getD (IntKind.i64.wrap (t42 - 1)).toNat default).Atom.Row (t.Factors.getD (IntKind.i64.wrap (t42 - 1)).toNat default).Atom.Args (t.Factors.getD (IntKind.i64.wrap (t42 - 1)).toNat default).Atom.Func (t.Factors.getD (IntKind.i64.wrap (t42 - 1)).toNat default).Atom.Items (t.Factors.getD (IntKind.i64.wrap (t42 - 1)).toNat default).Atom.Op (t.Factors.getD (IntKind.i64.wrap (t42 - 1)).toNat default).Atom.Bound) (Atom.mk (t40.getD t42.toNat default).Atom.Kind (t40.getD t42.toNat default).Atom.Row (t40.getD t42.toNat default).Atom.Args (t40.getD t42.toNat default).Atom.Func (t40.getD t42.toNat default).Atom.Items (t40.getD t42.toNat default).Atom.Op (t40.getD t42.toNat default).Atom.Bound)) fun r1=>.i (decide (r1≥0)) (.k (.inl false)) (.bn (zC (Atom.mk (t40.getD t42.toNat default).Atom.Kind (t40.getD t42.toNat default).Atom.Row (t40.getD t42.toNat default).Atom.Args (t40.getD t42.toNat default).Atom.Func (t40.getD t42.toNat default).Atom.Items (t40.getD t42.toNat default).Atom.Op (t40.getD t42.toNat default).Atom.Bound)) fun r0=>.i (!r0) (.k (.inl false)) (.h (a,(),t10,t11,t12,t40,t41,(IntKind.i64.wrap (t42+1)),()) (t,())))) .d) (.bn (zC (Atom.mk (t40.getD t42.toNat default).Atom.Kind (t40.getD t42.toNat default).Atom.Row (t40.getD t42.toNat default).Atom.Args (t40.getD t42.toNat default).Atom.Func (t40.getD t42.toNat default).Atom.Items (t40.getD t42.toNat default).Atom.Op (t40.getD t42.toNat default).Atom.Bound)) fun r2=>.i (!r2) (.k (.inl false)) (.h (a,(),t10,t11,t12,t40,t41,(IntKind.i64.wrap (t42+1)),()) (t,()))))) (.i (decide (t42>0)) (.i (decide (0≤IntKind.i64.wrap (t42 - 1))&&decide (IntKind.i64.wrap (t42 - 1)<Int.ofNat t.Factors.length)) (.bn (ziT (Atom.mk (t.Factors.getD (IntKind.i64.wrap (t42 - 1)).toNat default).Atom.Kind (t.Factors.getD (IntKind.i64.wrap (t42 - 1)).toNat default).Atom.Row (t.Factors.getD (IntKind.i64.wrap (t42 - 1)).toNat default).Atom.Args (t.Factors.getD (IntKind.i64.wrap (t42 - 1)).toNat default).Atom.Func (t.Factors.getD (IntKind.i64.wrap (t42 - 1)).toNat default).Atom.Items (t.Factors.getD (IntKind.i64.wrap (t42 - 1)).toNat default).Atom.Op (t.Factors.getD (IntKind.i64.wrap (t42 - 1)).toNat default).Atom.Bound) (Atom.mk (t40.getD t42.toNat default).Atom.Kind (t40.getD t42.toNat default).Atom.Row (t40.getD t42.toNat default).Atom.Args (t40.getD t42.toNat default).Atom.Func (t40.getD t42.toNat default).Atom.Items (t40.getD t42.toNat default).Atom.Op (t40.getD t42.toNat default).Atom.Bound)) fun r4=>.i (decide (r4≥0)) (.k (.inl false)) (.bn (zC (Atom.mk (t40.getD t42.toNat default).Atom.Kind (t40.getD t42.toNat default).Atom.Row (t40.getD t42.toNat default).Atom.Args (t40.getD t42.toNat default).Atom.Func (t40.getD t42.toNat default).Atom.Items (t40.getD t42.toNat default).Atom.Op (t40.getD t42.toNat default).Atom.Bound)) fun r3=>.i (!r3) (.k (.inl false)) (.h (a,(),t10,t11,t12,t40,t41,(IntKind.i64.wrap (t42+1)),()) (t,())))) .d) (.bn (zC (Atom.mk (t40.getD t42.toNat default).Atom.Kind (t40.getD t42.toNat default).Atom.Row (t40.getD t42.toNat default).Atom.Args (t40.getD t42.toNat default).Atom.Func (t40.getD t42.toNat default).Atom.Items (t40.getD t42.toNat default).Atom.Op (t40.getD t42.toNat default).Atom.Bound)) fun r5=>.i (!r5) (.k (.inl false)) (.h (a,(),t10,t11,t12,t40,t41,(IntKind.i64.wrap (t42+1)),()) (t,())))))) .d) (.k (.inr (a,t10,t11,t12)))
def zvc (zC:Atom→Bool×Bool) (x:zmj) (y:Term×Unit):Wy zmj (Term×Unit) zrK:=zkr zC x.1 x.2.2.1 x.2.2.2.1 x.2.2.2.2.1 x.2.2.2.2.2.1 x.2.2.2.2.2.2.1 x.2.2.2.2.2.2.2.1 y.1
def zu7 (zC:Atom→Bool×Bool) (n:Nat) (a:yC) (t10:yC) (t11:Int) (t12:Int) (t40:yD) (t41:Int) (t42:Int) (t:Term):Bool×zrK:=zI (zvc zC) (.inl default) n (a,(),t10,t11,t12,t40,t41,t42,()) (t,())
def zN5 (r:zrK):LTree ty:=.ite (isL r) (.done .ret [.lit (.bool (getL r))] []) (.done (.exit 2) [.sl 28 (getR r).1,.sl 28 (getR r).2.1,.lit (.int .i64 (getR r).2.2.1),.lit (.int .i64 (getR r).2.2.2)] [])
def zQg:LL ty zmj:=za (lSl 28) (za (zfl 340 0) (za (lSl 28) (za lI64 (za lI64 (za (lSl 69) (za lI64 (za lI64 zp)))))))
def zP0:BL ty (Term×Unit):=bBox (zg1 (fun x=>(⟨x.1,x.2.1⟩:Term)) (fun x=>(x.Coeff,x.Factors,())) (fun _=>rfl) (za (lInt .i64) (za (lSl 69) zp))) false (bNil)
def zkl (zC:Atom→Bool×Bool) (a:yC) (t10:yC) (t11:Int) (t12:Int):Wy zmy (Unit) (Bool⊕Unit):=.i (decide (t12<t11)) (.i (decide (0≤t12)&&decide (t12<Int.ofNat t10.length)) (.i (decide ((t10.getD t12.toNat default).Coeff<1)) (.k (.inl false)) (.i (decide ((t10.getD t12.toNat default).Coeff>1152921504606846976)) (.k (.inl false)) (.i (decide (t12>0)) (.i (decide (0≤IntKind.i64.wrap (t12 - 1))&&decide (IntKind.i64.wrap (t12 - 1)<Int.ofNat a.length)) (.bn (zb1 (a.getD (IntKind.i64.wrap (t12 - 1)).toNat default) (t10.getD t12.toNat default)) fun r15=>.i (decide (r15≥0)) (.k (.inl false)) (.bn (zu7 zC (a.length+t10.length+t11.toNat +t12.toNat +(t10.getD t12.toNat default).Factors.length+(Int.ofNat (t10.getD t12.toNat default).Factors.length).toNat +Int.toNat 0+(t10.getD t12.toNat default).Factors.length+1) a t10 t11 t12 (t10.getD t12.toNat default).Factors (Int.ofNat (t10.getD t12.toNat default).Factors.length) 0 (t10.getD t12.toNat default)) fun r14=>.i (isL r14) (.k (.inl (getL r14))) (.h ((getR r14).1,(getR r14).2.1,(getR r14).2.2.1,(IntKind.i64.wrap ((getR r14).2.2.2+1)),()) ()))) .d) (.bn (zu7 zC (a.length+t10.length+t11.toNat +t12.toNat +(t10.getD t12.toNat default).Factors.length+(Int.ofNat (t10.getD t12.toNat default).Factors.length).toNat +Int.toNat 0+(t10.getD t12.toNat default).Factors.length+1) a t10 t11 t12 (t10.getD t12.toNat default).Factors (Int.ofNat (t10.getD t12.toNat default).Factors.length) 0 (t10.getD t12.toNat default)) fun r16=>.i (isL r16) (.k (.inl (getL r16))) (.h ((getR r16).1,(getR r16).2.1,(getR r16).2.2.1,(IntKind.i64.wrap ((getR r16).2.2.2+1)),()) ()))))) .d) (.k (.inr ()))
def zvi (zC:Atom→Bool×Bool) (x:zmy) (y:Unit):Wy zmy (Unit) (Bool⊕Unit):=zkl zC x.1 x.2.1 x.2.2.1 x.2.2.2.1
def zCP (zC:Atom→Bool×Bool) (n:Nat) (a:yC) (t10:yC) (t11:Int) (t12:Int):Bool×(Bool⊕Unit):=zI (zvi zC) (.inl default) n (a,t10,t11,t12,()) ()
def zN7 (r:Bool⊕Unit):LTree ty:=.ite (isL r) (.done .ret [.lit (.bool (getL r))] []) (.done (.exit 0) [] [])
def zQt:LL ty zmy:=za (lSl 28) (za (lSl 28) (za lI64 (za lI64 zp)))
def zNP (x:zmj) (y:Term×Unit):Nat:=(x.1.length+x.2.2.1.length+Int.toNat x.2.2.2.1+Int.toNat x.2.2.2.2.1+x.2.2.2.2.2.1.length+Int.toNat x.2.2.2.2.2.2.1+Int.toNat x.2.2.2.2.2.2.2.1+y.1.Factors.length+1)
def zOS (x:zmy) (y:Unit):Nat:=(x.1.length+x.2.1.length+Int.toNat x.2.2.1+Int.toNat x.2.2.2.1+1)
def zvC (zC:Atom→Bool×Bool):Cx ty:=mkCx base 85 [(62,zua),(63,annotation_compareLists_spec),(64,zjT),(65,annotation_compareAtoms_spec),(66,(zmY zC))] [] [(4,(kpL [0,10,11,12])),(9,(kpL [0,4,10,11,12,40,41,42]))] [(4,1,[]),(4,0,(kpL [2])),(9,3,(kpL [0,10,11,12])),(9,0,(kpL [2]))] [(9,spW zQg zP0 (zvc zC) (.inl default) zN5 zNP),(4,spW zQt z5G (zvi zC) (.inl default) zN7 zOS)] []
theorem zO4 (zC:Atom→Bool×Bool):zL (zvC zC) (lp (body Tryz.f20) 1):=zw (id:=9) (hl:=rfl)
theorem zO0 (zC:Atom→Bool×Bool):zL (zvC zC) (lp (body Tryz.f20) 0):=zw (id:=4) (hl:=rfl)
def zEs (zC:Atom→Bool×Bool) (a:yC):Wy0 (Bool):=.bn (zlN a) fun r21=>.i (!r21) (.k false) (.bn (zCP zC (a.length+a.length+(Int.ofNat a.length).toNat +Int.toNat 0+1) a a (Int.ofNat a.length) 0) fun r20=>.i (isL r20) (.k (getL r20)) (.k true))
def znu (zC:Atom→Bool×Bool) (a:yC):Bool×Bool:=(zEs zC a).fin default
theorem zL6 (zC:Atom→Bool×Bool) (zMe:SdP 66 (zmY zC)):SdP 20 (zhW (znu zC)):=
 sW (cx':=(zvC zC)) zq zi zl (zj ⟨zA4,zl3,znv,zuK,zMe,trivial⟩) Tryz.call20 Tryz.func20 (c:=body Tryz.f20) (lOK (aC (zO0 zC) (aC (zO4 zC) aN)))
def zTu:Cx ty:=mkCx base 9 [(67,annotation_Compare_spec)] [] [] [] [] []
def zGI (a:yC) (b:yC):Wy0 (Bool):=.bn (zAv a b) fun r0=>.k (r0==0)
def zeW (a:yC) (b:yC):Bool×Bool:=(zGI a b).fin default
def zkw:Ab.Spec ty:=zh zSg fun x=>((zeW x.1 x.2.1).1,zTP (zeW x.1 x.2.1).2)
theorem zm2:SdP 21 zkw:=
 sW (cx':=zTu) zq zi zl (zj ⟨zK9,trivial⟩) Tryz.call21 Tryz.func21 (c:=body Tryz.f21) (lOK aN)
def z23:Cx ty:=mkCx base 36 [] [] [] [] [] []
def zS6 (v:Value):Wy0 (Bool):=.i (v.Kind==0) (.k (v.Text.toList==(ByteArray.mk #[]).toList)) (.i (v.Kind==1) (.i (v.Int==0) (.k (decide (Int.ofNat v.Text.size≤255))) (.k false)) (.i (v.Kind==2) (.i (v.Int==0) (.k (v.Text.toList==(ByteArray.mk #[]).toList)) (.i (v.Int==1) (.k (v.Text.toList==(ByteArray.mk #[]).toList)) (.k false))) (.k false)))
def zun (v:Value):Bool×Bool:=(zS6 v).fin default
def z5n:AL base (Value×Unit):=zd (ze (vAgg 65)) aNil
def zw5:Ab.Spec ty:=zh z5n fun x=>((zun x.1).1,zTP (zun x.1).2)
theorem zBh:SdP 164 zw5:=
 sW (cx':=z23) zq zi zl (zj trivial) Tryz.call164 Tryz.func164 (c:=body Tryz.f164) (lOK aN)
def zLW:Cx ty:=mkCx base 27 [(164,zw5)] [] [] [] [] []
def zAU (w:Weighted) (p1:Value) (p2:Int):Wy0 (Bool):=.bn (zun w.Value) fun r0=>.i (!r0) (.k true) (.i (w.Value.Kind != p1.Kind) (.k true) (.i (p2==0) (.k (w.Value.Int != 1)) (.k false)))
def zhh (w:Weighted) (p1:Value) (p2:Int):Bool×Bool:=(zAU w p1 p2).fin default
def zMI:AL base (Weighted×Value×(Int×Unit)×Unit):=zd (ze (vAgg 100)) (zd (ze (zze 65)) (zd (ze (vBox (zdz vI64 vNil))) aNil))
def zjV:Ab.Spec ty:=zh zMI fun x=>((zhh x.1 x.2.1 x.2.2.1.1).1,zTP (zhh x.1 x.2.1 x.2.2.1.1).2)
theorem znn:SdP 165 zjV:=
 sW (cx':=zLW) zq zi zl (zj ⟨zBh,trivial⟩) Tryz.call165 Tryz.func165 (c:=body Tryz.f165) (lOK aN)
abbrev zcu:=yE×(Value×(Int×Unit)×Unit)×Int×Int×Unit
def zqb (s:yE) (f_0:Value) (f_1:Int) (t7:Int) (t8:Int):Wy zcu (Unit) (Int⊕Unit):=.i (decide (t8<t7)) (.i (decide (0≤t8)&&decide (t8<Int.ofNat s.length)) (.bn (zhh (s.getD t8.toNat default) f_0 f_1) fun r0=>.i (r0) (.k (.inl t8)) (.h (s,(f_0,(f_1,()),()),t7,(IntKind.i64.wrap (t8+1)),()) ())) .d) (.k (.inr ()))
def zhl (x:zcu) (y:Unit):Wy zcu (Unit) (Int⊕Unit):=zqb x.1 x.2.1.1 x.2.1.2.1.1 x.2.2.1 x.2.2.2.1
def zp4 (n:Nat) (s:yE) (f_0:Value) (f_1:Int) (t7:Int) (t8:Int):Bool×(Int⊕Unit):=zI (zhl) (.inl default) n (s,(f_0,(f_1,()),()),t7,t8,()) ()
def zqd:LL ty zcu:=za (lSl 100) (za (lFn 165 (za (zny (zg1 (fun x=>(⟨x.1,x.2.1,x.2.2.1⟩:Value)) (fun x=>(x.Kind,x.Int,x.Text,())) (fun _=>rfl) (za lI64 (za lI64 (za lStr zp)))) 0) (za (zny (za lI64 zp) 0) zp))) (za lI64 (za lI64 zp)))
def zpo (x:zcu) (y:Unit):Nat:=(x.1.length+Int.toNat x.2.1.2.1.1+Int.toNat x.2.2.1+Int.toNat x.2.2.2.1+1)
def zhp:Cx ty:=mkCx base 19 [(165,zjV)] [] [(2,(kpL [0,1,7,8]))] [(2,1,[]),(2,0,(kpL [4]))] [(2,spW zqd z5G (zhl) (.inl default) zsS zpo)] []
theorem zpm:zL zhp (lp (body Tryz.f163) 0):=zw (id:=2) (hl:=rfl)
def zq8 (s:yE) (f_0:Value) (f_1:Int):Wy0 (Int):=.bn (zp4 (s.length+f_1.toNat +(Int.ofNat s.length).toNat +Int.toNat 0+1) s f_0 f_1 (Int.ofNat s.length) 0) fun r2=>.i (isL r2) (.k (getL r2)) (.k (-1:Int))
def zds (s:yE) (f_0:Value) (f_1:Int):Bool×Int:=(zq8 s f_0 f_1).fin default
def zrG:AL base (yE×(Value×(Int×Unit)×Unit)×Unit):=zd (ze (vSl 100)) (zd (ze (vFn 165 (zdz (zze 65) (zdz (vBox (zdz vI64 vNil)) vNil)))) aNil)
def zgG:Ab.Spec ty:=zh zrG fun x=>((zds x.1 x.2.1.1 x.2.1.2.1.1).1,zO3 (zds x.1 x.2.1.1 x.2.1.2.1.1).2)
theorem zoz:SdP 163 zgG:=
 sW (cx':=zhp) zq zi zl (zj ⟨znn,trivial⟩) Tryz.call163 Tryz.func163 (c:=body Tryz.f163) (lOK (aC zpm aN))
def zon:Cx ty:=mkCx base 9 [(163,zgG),(165,zjV)] [] [] [] [] []
def zgL (s:yE) (f_0:Value) (f_1:Int):Wy0 (Bool):=.bn (zds s f_0 f_1) fun r0=>.k (decide (r0≥0))
def zbz (s:yE) (f_0:Value) (f_1:Int):Bool×Bool:=(zgL s f_0 f_1).fin default
def zfS:Ab.Spec ty:=zh zrG fun x=>((zbz x.1 x.2.1.1 x.2.1.2.1.1).1,zTP (zbz x.1 x.2.1.1 x.2.1.2.1.1).2)
theorem zm4:SdP 132 zfS:=
 sW (cx':=zon) zq zi zl (zj ⟨zoz,znn,trivial⟩) Tryz.call132 Tryz.func132 (c:=body Tryz.f132) (lOK aN)
def zQB:Cx ty:=mkCx base 43 [(132,zfS),(164,zw5),(165,zjV)] [] [] [] [] []
def zDI (fn:Int) (items:yE) (op:Int) (bound:Value):Wy0 (Bool):=.i (decide (fn<0)) (.k false) (.i (decide (fn>3)) (.k false) (.i (decide (op<5)) (.k false) (.i (decide (op>10)) (.k false) (.bn (zun bound) fun r3=>.i (!r3) (.k false) (.i (fn==0) (.i (bound.Kind != 0) (.k false) (.bn (zbz items bound fn) fun r0=>.k (!r0))) (.i (fn==1) (.i (bound.Kind != 0) (.k false) (.bn (zbz items bound fn) fun r1=>.k (!r1))) (.bn (zbz items bound fn) fun r2=>.k (!r2))))))))
def zko (fn:Int) (items:yE) (op:Int) (bound:Value):Bool×Bool:=(zDI fn items op bound).fin default
def zR8:AL base (Int×yE×Int×Value×Unit):=zd (ze vI64) (zd (ze (vSl 100)) (zd (ze vI64) (zd (ze (vAgg 65)) aNil)))
def zsL:Ab.Spec ty:=zh zR8 fun x=>((zko x.1 x.2.1 x.2.2.1 x.2.2.2.1).1,zTP (zko x.1 x.2.1 x.2.2.1 x.2.2.2.1).2)
theorem zAb:SdP 135 zsL:=
 sW (cx':=zQB) zq zi zl (zj ⟨zm4,zBh,znn,trivial⟩) Tryz.call135 Tryz.func135 (c:=body Tryz.f135) (lOK aN)
def zFA:Cx ty:=mkCx base 7 [] [] [] [] [] []
def zwu (t:Term):Wy0 (Bool):=.k (Int.ofNat t.Factors.length==0)
def zhc (t:Term):Bool×Bool:=(zwu t).fin default
def zg6:Ab.Spec ty:=zh zNO fun x=>((zhc x.1).1,zTP (zhc x.1).2)
theorem zkT:SdP 162 zg6:=
 sW (cx':=zFA) zq zi zl (zj trivial) Tryz.call162 Tryz.func162 (c:=body Tryz.f162) (lOK aN)
abbrev zcX:=yC×Unit×Int×Int×Unit
def zsW (s:yC) (t7:Int) (t8:Int):Wy zcX (Unit) (Int⊕Unit):=.i (decide (t8<t7)) (.i (decide (0≤t8)&&decide (t8<Int.ofNat s.length)) (.i ((zhc (s.getD t8.toNat default)).2) (.k (.inl t8)) (.h (s,(),t7,(IntKind.i64.wrap (t8+1)),()) ())) .d) (.k (.inr ()))
def ziS (x:zcX) (y:Unit):Wy zcX (Unit) (Int⊕Unit):=zsW x.1 x.2.2.1 x.2.2.2.1
def zsE (n:Nat) (s:yC) (t7:Int) (t8:Int):Bool×(Int⊕Unit):=zI (ziS) (.inl default) n (s,(),t7,t8,()) ()
def zsp:LL ty zcX:=za (lSl 28) (za (lFn 162 (zp)) (za lI64 (za lI64 zp)))
def zrW (x:zcX) (y:Unit):Nat:=(x.1.length+Int.toNat x.2.2.1+Int.toNat x.2.2.2.1+1)
def ziZ:Cx ty:=mkCx base 19 [(162,zg6)] [] [(2,(kpL [0,1,7,8]))] [(2,1,[]),(2,0,(kpL [4]))] [(2,spW zsp z5G (ziS) (.inl default) zsS zrW)] []
theorem zrU:zL ziZ (lp (body Tryz.f113) 0):=zw (id:=2) (hl:=rfl)
def ztn (s:yC):Wy0 (Int):=.bn (zsE (s.length+(Int.ofNat s.length).toNat +Int.toNat 0+1) s (Int.ofNat s.length) 0) fun r0=>.i (isL r0) (.k (getL r0)) (.k (-1:Int))
def zd1 (s:yC):Bool×Int:=(ztn s).fin default
def ztI:AL base (yC×Unit×Unit):=zd (ze (vSl 28)) (zd (ze (vFn 162 vNil)) aNil)
def zhQ:Ab.Spec ty:=zh ztI fun x=>((zd1 x.1).1,zO3 (zd1 x.1).2)
theorem zqg:SdP 113 zhQ:=
 sW (cx':=ziZ) zq zi zl (zj ⟨zkT,trivial⟩) Tryz.call113 Tryz.func113 (c:=body Tryz.f113) (lOK (aC zrU aN))
def zqx:Cx ty:=mkCx base 9 [(113,zhQ),(162,zg6)] [] [] [] [] []
def zhE (s:yC):Wy0 (Bool):=.bn (zd1 s) fun r0=>.k (decide (r0≥0))
def zdv (s:yC):Bool×Bool:=(zhE s).fin default
def zgI:Ab.Spec ty:=zh ztI fun x=>((zdv x.1).1,zTP (zdv x.1).2)
theorem zoo:SdP 59 zgI:=
 sW (cx':=zqx) zq zi zl (zj ⟨zqg,zkT,trivial⟩) Tryz.call59 Tryz.func59 (c:=body Tryz.f59) (lOK aN)
def zJM:Cx ty:=mkCx base 5 [(59,zgI),(162,zg6)] [] [] [] [] []
def zzS (a:yC):Wy0 (Bool):=.bn (zdv a) fun r0=>.k r0
def zeY (a:yC):Bool×Bool:=(zzS a).fin default
def znK:Ab.Spec ty:=zh zVO fun x=>((zeY x.1).1,zTP (zeY x.1).2)
theorem zvK:SdP 131 znK:=
 sW (cx':=zJM) zq zi zl (zj ⟨zoo,zkT,trivial⟩) Tryz.call131 Tryz.func131 (c:=body Tryz.f131) (lOK aN)
def zKA:Cx ty:=mkCx base 14 [] [] [] [] [] []
def zA0 (a:yC):Wy0 (Bool):=.i (Int.ofNat a.length==1) (.i (decide ((0:Int)≤(0:Int))&&decide (0<Int.ofNat a.length)) (.k (Int.ofNat (a.getD (Int.toNat 0) default).Factors.length==0)) .d) (.k false)
def zhk (a:yC):Bool×Bool:=(zA0 a).fin default
def zow:Ab.Spec ty:=zh zVO fun x=>((zhk x.1).1,zTP (zhk x.1).2)
theorem zwC:SdP 129 zow:=
 sW (cx':=zKA) zq zi zl (zj trivial) Tryz.call129 Tryz.func129 (c:=body Tryz.f129) (lOK aN)
def zQZ:Cx ty:=mkCx base 42 [(64,zjT)] [] [] [] [] []
def zEY (a:yC):Wy0 (Bool):=.i (Int.ofNat a.length != 1) (.k false) (.i (decide ((0:Int)≤(0:Int))&&decide (0<Int.ofNat a.length)) (.i ((a.getD (Int.toNat 0) default).Coeff != 1) (.k false) (.i (decide ((0:Int)≤(0:Int))&&decide (0<Int.ofNat a.length)) (.i (Int.ofNat (a.getD (Int.toNat 0) default).Factors.length != 1) (.k false) (.i (decide ((0:Int)≤(0:Int))&&decide (0<Int.ofNat a.length)) (.i (decide ((0:Int)≤(0:Int))&&decide (0<Int.ofNat (a.getD (Int.toNat 0) default).Factors.length)) (.i (((a.getD (Int.toNat 0) default).Factors.getD (Int.toNat 0) default).Exp==1) (.i (((a.getD (Int.toNat 0) default).Factors.getD (Int.toNat 0) default).Atom.Kind==2) (.k true) (.bn (zfC (Atom.mk ((a.getD (Int.toNat 0) default).Factors.getD (Int.toNat 0) default).Atom.Kind ((a.getD (Int.toNat 0) default).Factors.getD (Int.toNat 0) default).Atom.Row ((a.getD (Int.toNat 0) default).Factors.getD (Int.toNat 0) default).Atom.Args ((a.getD (Int.toNat 0) default).Factors.getD (Int.toNat 0) default).Atom.Func ((a.getD (Int.toNat 0) default).Factors.getD (Int.toNat 0) default).Atom.Items ((a.getD (Int.toNat 0) default).Factors.getD (Int.toNat 0) default).Atom.Op ((a.getD (Int.toNat 0) default).Factors.getD (Int.toNat 0) default).Atom.Bound)) fun r0=>.k r0)) (.k false)) .d) .d)) .d)) .d)
def zlQ (a:yC):Bool×Bool:=(zEY a).fin default
def zuo:Ab.Spec ty:=zh zVO fun x=>((zlQ x.1).1,zTP (zlQ x.1).2)
theorem zAV:SdP 130 zuo:=
 sW (cx':=zQZ) zq zi zl (zj ⟨znv,trivial⟩) Tryz.call130 Tryz.func130 (c:=body Tryz.f130) (lOK aN)
def z1Y:Cx ty:=mkCx base 11 [] [] [] [] [] []
def zP9 (id:RowID):Wy0 (Bool):=.i (decide (id.Table≥1)) (.k (decide (id.Seq≥1))) (.k false)
def zqF (id:RowID):Bool×Bool:=(zP9 id).fin default
def z3Z:AL base (RowID×Unit):=zd (ze (vAgg 49)) aNil
def zuX:Ab.Spec ty:=zh z3Z fun x=>((zqF x.1).1,zTP (zqF x.1).2)
theorem zzu:SdP 128 zuX:=
 sW (cx':=z1Y) zq zi zl (zj trivial) Tryz.call128 Tryz.func128 (c:=body Tryz.f128) (lOK aN)
abbrev zdB:=yE×Unit×Int×Unit
def zex (x_:yE) (i:Int):Wy zdB (Unit) (Bool⊕Unit):=.i (decide (i>0)) (.i (decide (0≤i)&&decide (i<Int.ofNat x_.length)) (.i (decide (0≤IntKind.i64.wrap (i - 1))&&decide (IntKind.i64.wrap (i - 1)<Int.ofNat x_.length)) (.bn (zbe (x_.getD i.toNat default) (x_.getD (IntKind.i64.wrap (i - 1)).toNat default)) fun r0=>.i (decide (r0<0)) (.k (.inl false)) (.h (x_,(),(IntKind.i64.wrap (i - 1)),()) ())) .d) .d) (.k (.inr ()))
def zhq (x:zdB) (y:Unit):Wy zdB (Unit) (Bool⊕Unit):=zex x.1 x.2.2.1
def zev (n:Nat) (x_:yE) (i:Int):Bool×(Bool⊕Unit):=zI (zhq) (.inl default) n (x_,(),i,()) ()
def zqm:LL ty zdB:=za (lSl 100) (za (lFn 124 (zp)) (za lI64 zp))
def zhs:Cx ty:=mkCx base 25 [(124,annotation_compareItems_spec)] [] [(2,(kpL [0,1,5]))] [(2,1,[]),(2,0,(kpL [4]))] [(2,spW zqm z5G (zhq) (.inl default) zN7 fun x y=>(x.1.length+Int.toNat x.2.2.1+1))] []
theorem zpO:zL zhs (lp (body Tryz.f134) 0):=zw (id:=2) (hl:=rfl)
def zhS (x_:yE):Wy0 (Bool):=.bn (zev (x_.length+(IntKind.i64.wrap (Int.ofNat x_.length - 1)).toNat +1) x_ (IntKind.i64.wrap (Int.ofNat x_.length - 1))) fun r2=>.i (isL r2) (.k (getL r2)) (.k true)
def zck (x_:yE):Bool×Bool:=(zhS x_).fin default
def zry:AL base (yE×Unit×Unit):=zd (ze (vSl 100)) (zd (ze (vFn 124 vNil)) aNil)
def zgK:Ab.Spec ty:=zh zry fun x=>((zck x.1).1,zTP (zck x.1).2)
theorem zor:SdP 134 zgK:=
 sW (cx':=zhs) zq zi zl (zj ⟨zhz,trivial⟩) Tryz.call134 Tryz.func134 (c:=body Tryz.f134) (lOK (aC zpO aN))
def zcQ (zb:yA→Bool×Bool) (zg:yC→Bool×Bool) (zc:yE→Bool×Bool) (zf:Weighted→Bool×Bool):Cx ty:=mkCx base 149 [(21,zkw),(124,annotation_compareItems_spec),(126,(zco zb)),(127,(zhW zg)),(128,zuX),(129,zow),(130,zuo),(131,znK),(132,(zcE zc)),(133,(zdA zf)),(134,zgK),(135,zsL)] [] [] [] [] []
def zca (zb:yA→Bool×Bool) (zg:yC→Bool×Bool) (zc:yE→Bool×Bool) (zf:Weighted→Bool×Bool) (x_:Atom):Wy0 (Bool):=.i (x_.Kind==0) (.i (x_.Func != 0) (.k false) (.i (Int.ofNat x_.Items.length != 0) (.k false) (.i (x_.Op != 0) (.k false) (.i (!(x_.Bound.Kind==0&&(x_.Bound.Int==0&&(x_.Bound.Text.toList==(ByteArray.mk #[]).toList&&true)))) (.k false) (.bn (zb x_.Args) fun r1=>.i (r1) (.k false) (.bn (zqF x_.Row) fun r0=>.i (r0) (.k (Int.ofNat x_.Args.length==0)) (.k false))))))) (.i (x_.Kind==1) (.i (x_.Func != 0) (.k false) (.i (Int.ofNat x_.Items.length != 0) (.k false) (.i (x_.Op != 0) (.k false) (.i (!(x_.Bound.Kind==0&&(x_.Bound.Int==0&&(x_.Bound.Text.toList==(ByteArray.mk #[]).toList&&true)))) (.k false) (.i (!(x_.Row.Table==0&&(x_.Row.Seq==0&&true))) (.k false) (.bn (zb x_.Args) fun r3=>.i (r3) (.k false) (.i (Int.ofNat x_.Args.length==2) (.i (decide ((0:Int)≤(0:Int))&&decide (0<Int.ofNat x_.Args.length)) (.i (decide ((0:Int)≤(1:Int))&&decide (1<Int.ofNat x_.Args.length)) (.bn (zeW (x_.Args.getD (Int.toNat 0) default) (x_.Args.getD (Int.toNat 1) default)) fun r2=>.k (!r2)) .d) .d) (.k false)))))))) (.i (x_.Kind==2) (.i (x_.Func != 0) (.k false) (.i (Int.ofNat x_.Items.length != 0) (.k false) (.i (x_.Op != 0) (.k false) (.i (!(x_.Bound.Kind==0&&(x_.Bound.Int==0&&(x_.Bound.Text.toList==(ByteArray.mk #[]).toList&&true)))) (.k false) (.i (!(x_.Row.Table==0&&(x_.Row.Seq==0&&true))) (.k false) (.bn (zb x_.Args) fun r6=>.i (r6) (.k false) (.i (Int.ofNat x_.Args.length==1) (.i (decide ((0:Int)≤(0:Int))&&decide (0<Int.ofNat x_.Args.length)) (.bn (zhk (x_.Args.getD (Int.toNat 0) default)) fun r5=>.i (!r5) (.i (decide ((0:Int)≤(0:Int))&&decide (0<Int.ofNat x_.Args.length)) (.bn (zlQ (x_.Args.getD (Int.toNat 0) default)) fun r4=>.k (!r4)) .d) (.k false)) .d) (.k false)))))))) (.i (x_.Kind==3) (.i (x_.Func != 0) (.k false) (.i (Int.ofNat x_.Items.length != 0) (.k false) (.i (x_.Op != 0) (.k false) (.i (!(x_.Bound.Kind==0&&(x_.Bound.Int==0&&(x_.Bound.Text.toList==(ByteArray.mk #[]).toList&&true)))) (.k false) (.i (!(x_.Row.Table==0&&(x_.Row.Seq==0&&true))) (.k false) (.bn (zb x_.Args) fun r8=>.i (r8) (.k false) (.i (Int.ofNat x_.Args.length==1) (.i (decide ((0:Int)≤(0:Int))&&decide (0<Int.ofNat x_.Args.length)) (.bn (zeY (x_.Args.getD (Int.toNat 0) default)) fun r7=>.k (!r7)) .d) (.k false)))))))) (.i (x_.Kind==4) (.i (!(x_.Row.Table==0&&(x_.Row.Seq==0&&true))) (.k false) (.bn (zb x_.Args) fun r12=>.i (r12) (.k false) (.bn (zc x_.Items) fun r11=>.i (Int.ofNat x_.Args.length==0) (.i (decide (Int.ofNat x_.Items.length>0)) (.i (!r11) (.bn (zck x_.Items) fun r10=>.i (r10) (.bn (zko x_.Func x_.Items x_.Op x_.Bound) fun r9=>.k r9) (.k false)) (.k false)) (.k false)) (.k false)))) (.i (x_.Func != 0) (.k false) (.i (Int.ofNat x_.Items.length != 0) (.k false) (.i (x_.Op != 0) (.k false) (.i (!(x_.Bound.Kind==0&&(x_.Bound.Int==0&&(x_.Bound.Text.toList==(ByteArray.mk #[]).toList&&true)))) (.k false) (.i (!(x_.Row.Table==0&&(x_.Row.Seq==0&&true))) (.k false) (.bn (zb x_.Args) fun r14=>.i (r14) (.k false) (.k false)))))))))))
def zjI (zb:yA→Bool×Bool) (zg:yC→Bool×Bool) (zc:yE→Bool×Bool) (zf:Weighted→Bool×Bool) (x_:Atom):Bool×Bool:=(zca zb zg zc zf x_).fin default
theorem zGO (zb:yA→Bool×Bool) (zg:yC→Bool×Bool) (zc:yE→Bool×Bool) (zf:Weighted→Bool×Bool) (v_Row:RowID) (v_Args:yA) (v_Func:Int) (v_Items:yE) (v_Op:Int) (v_Bound:Value)  :zg7 (zcQ zb zg zc zf) Tryz.f66 (body Tryz.f66) ⟨[.pure],[]⟩ [.pure (.agg (base.enc 67 (Atom.mk (Int.ofNat 0) v_Row v_Args v_Func v_Items v_Op v_Bound)))]=(zca zb zg zc zf (Atom.mk (Int.ofNat 0) v_Row v_Args v_Func v_Items v_Op v_Bound)).ev noH (fun r=>some (zTP r)) none:=by kernel_rfl
theorem zHn (zb:yA→Bool×Bool) (zg:yC→Bool×Bool) (zc:yE→Bool×Bool) (zf:Weighted→Bool×Bool) (v_Row:RowID) (v_Args:yA) (v_Func:Int) (v_Items:yE) (v_Op:Int) (v_Bound:Value)  :zg7 (zcQ zb zg zc zf) Tryz.f66 (body Tryz.f66) ⟨[.pure],[]⟩ [.pure (.agg (base.enc 67 (Atom.mk (Int.ofNat 1) v_Row v_Args v_Func v_Items v_Op v_Bound)))]=(zca zb zg zc zf (Atom.mk (Int.ofNat 1) v_Row v_Args v_Func v_Items v_Op v_Bound)).ev noH (fun r=>some (zTP r)) none:=by kernel_rfl
theorem zHI (zb:yA→Bool×Bool) (zg:yC→Bool×Bool) (zc:yE→Bool×Bool) (zf:Weighted→Bool×Bool) (v_Row:RowID) (v_Args:yA) (v_Func:Int) (v_Items:yE) (v_Op:Int) (v_Bound:Value)  :zg7 (zcQ zb zg zc zf) Tryz.f66 (body Tryz.f66) ⟨[.pure],[]⟩ [.pure (.agg (base.enc 67 (Atom.mk (Int.ofNat 2) v_Row v_Args v_Func v_Items v_Op v_Bound)))]=(zca zb zg zc zf (Atom.mk (Int.ofNat 2) v_Row v_Args v_Func v_Items v_Op v_Bound)).ev noH (fun r=>some (zTP r)) none:=by kernel_rfl
theorem zG2 (zb:yA→Bool×Bool) (zg:yC→Bool×Bool) (zc:yE→Bool×Bool) (zf:Weighted→Bool×Bool) (v_Row:RowID) (v_Args:yA) (v_Func:Int) (v_Items:yE) (v_Op:Int) (v_Bound:Value)  :zg7 (zcQ zb zg zc zf) Tryz.f66 (body Tryz.f66) ⟨[.pure],[]⟩ [.pure (.agg (base.enc 67 (Atom.mk (Int.ofNat 3) v_Row v_Args v_Func v_Items v_Op v_Bound)))]=(zca zb zg zc zf (Atom.mk (Int.ofNat 3) v_Row v_Args v_Func v_Items v_Op v_Bound)).ev noH (fun r=>some (zTP r)) none:=by kernel_rfl
theorem zGP (zb:yA→Bool×Bool) (zg:yC→Bool×Bool) (zc:yE→Bool×Bool) (zf:Weighted→Bool×Bool) (v_Row:RowID) (v_Args:yA) (v_Func:Int) (v_Items:yE) (v_Op:Int) (v_Bound:Value)  :zg7 (zcQ zb zg zc zf) Tryz.f66 (body Tryz.f66) ⟨[.pure],[]⟩ [.pure (.agg (base.enc 67 (Atom.mk (Int.ofNat 4) v_Row v_Args v_Func v_Items v_Op v_Bound)))]=(zca zb zg zc zf (Atom.mk (Int.ofNat 4) v_Row v_Args v_Func v_Items v_Op v_Bound)).ev noH (fun r=>some (zTP r)) none:=by kernel_rfl
theorem zHd (zb:yA→Bool×Bool) (zg:yC→Bool×Bool) (zc:yE→Bool×Bool) (zf:Weighted→Bool×Bool) (n:Nat) (v_Row:RowID) (v_Args:yA) (v_Func:Int) (v_Items:yE) (v_Op:Int) (v_Bound:Value)  :zg7 (zcQ zb zg zc zf) Tryz.f66 (body Tryz.f66) ⟨[.pure],[]⟩ [.pure (.agg (base.enc 67 (Atom.mk (Int.ofNat (n+5)) v_Row v_Args v_Func v_Items v_Op v_Bound)))]=(zca zb zg zc zf (Atom.mk (Int.ofNat (n+5)) v_Row v_Args v_Func v_Items v_Op v_Bound)).ev noH (fun r=>some (zTP r)) none:=by kernel_rfl
theorem zHF (zb:yA→Bool×Bool) (zg:yC→Bool×Bool) (zc:yE→Bool×Bool) (zf:Weighted→Bool×Bool) (n:Nat) (v_Row:RowID) (v_Args:yA) (v_Func:Int) (v_Items:yE) (v_Op:Int) (v_Bound:Value)  :zg7 (zcQ zb zg zc zf) Tryz.f66 (body Tryz.f66) ⟨[.pure],[]⟩ [.pure (.agg (base.enc 67 (Atom.mk (Int.negSucc n) v_Row v_Args v_Func v_Items v_Op v_Bound)))]=(zca zb zg zc zf (Atom.mk (Int.negSucc n) v_Row v_Args v_Func v_Items v_Op v_Bound)).ev noH (fun r=>some (zTP r)) none:=by kernel_rfl
theorem zIb (zb:yA→Bool×Bool) (zg:yC→Bool×Bool) (zc:yE→Bool×Bool) (zf:Weighted→Bool×Bool) (x_:Atom):zg7 (zcQ zb zg zc zf) Tryz.f66 (body Tryz.f66) ⟨[.pure],[]⟩ [.pure (.agg (base.enc 67 x_))]=(zca zb zg zc zf x_).ev noH (fun r=>some (zTP r)) none:=by
 obtain ⟨v_Kind,v_Row,v_Args,v_Func,v_Items,v_Op,v_Bound⟩:=x_
 match v_Kind with
 | .ofNat 0=>exact zGO zb zg zc zf v_Row v_Args v_Func v_Items v_Op v_Bound 
 | .ofNat 1=>exact zHn zb zg zc zf v_Row v_Args v_Func v_Items v_Op v_Bound 
 | .ofNat 2=>exact zHI zb zg zc zf v_Row v_Args v_Func v_Items v_Op v_Bound 
 | .ofNat 3=>exact zG2 zb zg zc zf v_Row v_Args v_Func v_Items v_Op v_Bound 
 | .ofNat 4=>exact zGP zb zg zc zf v_Row v_Args v_Func v_Items v_Op v_Bound 
 | .ofNat (n+5)=>exact zHd zb zg zc zf n v_Row v_Args v_Func v_Items v_Op v_Bound 
 | .negSucc n=>exact zHF zb zg zc zf n v_Row v_Args v_Func v_Items v_Op v_Bound 
theorem zFY (zb:yA→Bool×Bool) (zg:yC→Bool×Bool) (zc:yE→Bool×Bool) (zf:Weighted→Bool×Bool) (zmu:SdP 126 (zco zb)) (zfZ:SdP 127 (zhW zg)) (znV:SdP 132 (zcE zc)) (zfQ:SdP 133 (zdA zf)):SdP 66 (zmY (zjI zb zg zc zf)):=
 zXt (cx':=(zcQ zb zg zc zf)) zq zi zl (zj ⟨zm2,zhz,zmu,zfZ,zzu,zwC,zAV,zvK,znV,zfQ,zor,zAb,trivial⟩) Tryz.call66 Tryz.func66 (c:=body Tryz.f66) (by kernel_rfl) (zAD (l:=[]) (by kernel_rfl) trivial) (sg:=⟨[.pure],[]⟩) (A:=zBO) (res:=zTP) (W:=fun x=>zca zb zg zc zf x.1) (z:=default) (fun x=>zIb zb zg zc zf x.1) (fun _=>by kernel_rfl)
def zFw (zbN:yC→Bool×Bool):Cx ty:=mkCx base 11 [(20,(zhW zbN))] [] [] [] [] []
def zwy (zbN:yC→Bool×Bool) (a:yC):Wy0 (Bool):=.bn (zbN a) fun r0=>.i (!r0) (.k true) (.k (Int.ofNat a.length==0))
def zkD (zbN:yC→Bool×Bool) (a:yC):Bool×Bool:=(zwy zbN a).fin default
theorem zDr (zbN:yC→Bool×Bool) (zw8:SdP 20 (zhW zbN)):SdP 127 (zhW (zkD zbN)):=
 sW (cx':=(zFw zbN)) zq zi zl (zj ⟨zw8,trivial⟩) Tryz.call127 Tryz.func127 (c:=body Tryz.f127) (lOK aN)
def zFu (zbN:yC→Bool×Bool):Cx ty:=mkCx base 13 [(20,(zhW zbN))] [] [] [] [] []
def zwz (zbN:yC→Bool×Bool) (w:Weighted):Wy0 (Bool):=.bn (zbN w.Ann) fun r0=>.i (!r0) (.k true) (.k (Int.ofNat w.Ann.length==0))
def zkJ (zbN:yC→Bool×Bool) (w:Weighted):Bool×Bool:=(zwz zbN w).fin default
theorem zDp (zbN:yC→Bool×Bool) (zw8:SdP 20 (zhW zbN)):SdP 133 (zdA (zkJ zbN)):=
 sW (cx':=(zFu zbN)) zq zi zl (zj ⟨zw8,trivial⟩) Tryz.call133 Tryz.func133 (c:=body Tryz.f133) (lOK aN)
def zl1 (zg:yC→Bool×Bool) (zY:yA→Bool×Int):Cx ty:=mkCx base 9 [(127,(zhW zg)),(161,(zcA zY))] [] [] [] [] []
def zfj (zg:yC→Bool×Bool) (zY:yA→Bool×Int) (s:yA):Wy0 (Bool):=.bn (zY s) fun r0=>.k (decide (r0≥0))
def zcl (zg:yC→Bool×Bool) (zY:yA→Bool×Int) (s:yA):Bool×Bool:=(zfj zg zY s).fin default
theorem zk2 (zg:yC→Bool×Bool) (zY:yA→Bool×Int) (zfZ:SdP 127 (zhW zg)) (znr:SdP 161 (zcA zY)):SdP 126 (zco (zcl zg zY)):=
 sW (cx':=(zl1 zg zY)) zq zi zl (zj ⟨zfZ,znr,trivial⟩) Tryz.call126 Tryz.func126 (c:=body Tryz.f126) (lOK aN)
def znw (zf:Weighted→Bool×Bool) (z8:yE→Bool×Int):Cx ty:=mkCx base 9 [(133,(zdA zf)),(163,(zc5 z8))] [] [] [] [] []
def zgc (zf:Weighted→Bool×Bool) (z8:yE→Bool×Int) (s:yE):Wy0 (Bool):=.bn (z8 s) fun r0=>.k (decide (r0≥0))
def zcI (zf:Weighted→Bool×Bool) (z8:yE→Bool×Int) (s:yE):Bool×Bool:=(zgc zf z8 s).fin default
theorem zmo (zf:Weighted→Bool×Bool) (z8:yE→Bool×Int) (zfQ:SdP 133 (zdA zf)) (zpE:SdP 163 (zc5 z8)):SdP 132 (zcE (zcI zf z8)):=
 sW (cx':=(znw zf z8)) zq zi zl (zj ⟨zfQ,zpE,trivial⟩) Tryz.call132 Tryz.func132 (c:=body Tryz.f132) (lOK aN)
abbrev zb9:=yA×Unit×Int×Int×Unit
def znb (zg:yC→Bool×Bool) (s:yA) (t7:Int) (t8:Int):Wy zb9 (Unit) (Int⊕Unit):=.i (decide (t8<t7)) (.i (decide (0≤t8)&&decide (t8<Int.ofNat s.length)) (.bn (zg (s.getD t8.toNat default)) fun r0=>.i (r0) (.k (.inl t8)) (.h (s,(),t7,(IntKind.i64.wrap (t8+1)),()) ())) .d) (.k (.inr ()))
def zfI (zg:yC→Bool×Bool) (x:zb9) (y:Unit):Wy zb9 (Unit) (Int⊕Unit):=znb zg x.1 x.2.2.1 x.2.2.2.1
def zmX (zg:yC→Bool×Bool) (n:Nat) (s:yA) (t7:Int) (t8:Int):Bool×(Int⊕Unit):=zI (zfI zg) (.inl default) n (s,(),t7,t8,()) ()
def zm9:LL ty zb9:=za (lSl 23) (za (lFn 127 (zp)) (za lI64 (za lI64 zp)))
def zmN (x:zb9) (y:Unit):Nat:=(x.1.length+Int.toNat x.2.2.1+Int.toNat x.2.2.2.1+1)
def zfK (zg:yC→Bool×Bool):Cx ty:=mkCx base 19 [(127,(zhW zg))] [] [(2,(kpL [0,1,7,8]))] [(2,1,[]),(2,0,(kpL [4]))] [(2,spW zm9 z5G (zfI zg) (.inl default) zsS zmN)] []
theorem zmJ (zg:yC→Bool×Bool):zL (zfK zg) (lp (body Tryz.f161) 0):=zw (id:=2) (hl:=rfl)
def znQ (zg:yC→Bool×Bool) (s:yA):Wy0 (Int):=.bn (zmX zg (s.length+(Int.ofNat s.length).toNat +Int.toNat 0+1) s (Int.ofNat s.length) 0) fun r2=>.i (isL r2) (.k (getL r2)) (.k (-1:Int))
def zcC (zg:yC→Bool×Bool) (s:yA):Bool×Int:=(znQ zg s).fin default
theorem zl5 (zg:yC→Bool×Bool) (zfZ:SdP 127 (zhW zg)):SdP 161 (zcA (zcC zg)):=
 sW (cx':=(zfK zg)) zq zi zl (zj ⟨zfZ,trivial⟩) Tryz.call161 Tryz.func161 (c:=body Tryz.f161) (lOK (aC (zmJ zg) aN))
abbrev zcx:=yE×Unit×Int×Int×Unit
def zo4 (zf:Weighted→Bool×Bool) (s:yE) (t7:Int) (t8:Int):Wy zcx (Unit) (Int⊕Unit):=.i (decide (t8<t7)) (.i (decide (0≤t8)&&decide (t8<Int.ofNat s.length)) (.bn (zf (s.getD t8.toNat default)) fun r0=>.i (r0) (.k (.inl t8)) (.h (s,(),t7,(IntKind.i64.wrap (t8+1)),()) ())) .d) (.k (.inr ()))
def zgM (zf:Weighted→Bool×Bool) (x:zcx) (y:Unit):Wy zcx (Unit) (Int⊕Unit):=zo4 zf x.1 x.2.2.1 x.2.2.2.1
def zoW (zf:Weighted→Bool×Bool) (n:Nat) (s:yE) (t7:Int) (t8:Int):Bool×(Int⊕Unit):=zI (zgM zf) (.inl default) n (s,(),t7,t8,()) ()
def zoD:LL ty zcx:=za (lSl 100) (za (lFn 133 (zp)) (za lI64 (za lI64 zp)))
def zoq (x:zcx) (y:Unit):Nat:=(x.1.length+Int.toNat x.2.2.1+Int.toNat x.2.2.2.1+1)
def zgJ (zf:Weighted→Bool×Bool):Cx ty:=mkCx base 19 [(133,(zdA zf))] [] [(2,(kpL [0,1,7,8]))] [(2,1,[]),(2,0,(kpL [4]))] [(2,spW zoD z5G (zgM zf) (.inl default) zsS zoq)] []
theorem zoA (zf:Weighted→Bool×Bool):zL (zgJ zf) (lp (body Tryz.f163) 0):=zw (id:=2) (hl:=rfl)
def zpq (zf:Weighted→Bool×Bool) (s:yE):Wy0 (Int):=.bn (zoW zf (s.length+(Int.ofNat s.length).toNat +Int.toNat 0+1) s (Int.ofNat s.length) 0) fun r2=>.i (isL r2) (.k (getL r2)) (.k (-1:Int))
def zdg (zf:Weighted→Bool×Bool) (s:yE):Bool×Int:=(zpq zf s).fin default
theorem zni (zf:Weighted→Bool×Bool) (zfQ:SdP 133 (zdA zf)):SdP 163 (zc5 (zdg zf)):=
 sW (cx':=(zgJ zf)) zq zi zl (zj ⟨zfQ,trivial⟩) Tryz.call163 Tryz.func163 (c:=body Tryz.f163) (lOK (aC (zoA zf) aN))
def zes:Nat→(yC→Bool×Bool)×(Atom→Bool×Bool)×(yC→Bool×Bool)×(Weighted→Bool×Bool)×(yA→Bool×Int)×(yA→Bool×Bool)×(yE→Bool×Int)×(yE→Bool×Bool)
 | 0=>(fun _=>(false,default),fun _=>(false,default),fun _=>(false,default),fun _=>(false,default),fun _=>(false,default),fun _=>(false,default),fun _=>(false,default),fun _=>(false,default))
 | n+1=>(znu ((zes n).2.1),zjI ((zes n).2.2.2.2.2.1) ((zes n).2.2.1) ((zes n).2.2.2.2.2.2.2) ((zes n).2.2.2.1),zkD ((zes n).1),zkJ ((zes n).1),zcC ((zes n).2.2.1),zcl ((zes n).2.2.1) ((zes n).2.2.2.2.1),zdg ((zes n).2.2.2.1),zcI ((zes n).2.2.2.1) ((zes n).2.2.2.2.2.2.1))
def zkn (n:Nat):yC→Bool×Bool:=(zes n).1
def zmW (n:Nat):Atom→Bool×Bool:=(zes n).2.1
def zfa (n:Nat):yC→Bool×Bool:=(zes n).2.2.1
def ze5 (n:Nat):Weighted→Bool×Bool:=(zes n).2.2.2.1
def zcB (n:Nat):yA→Bool×Int:=(zes n).2.2.2.2.1
def zcn (n:Nat):yA→Bool×Bool:=(zes n).2.2.2.2.2.1
def zc6 (n:Nat):yE→Bool×Int:=(zes n).2.2.2.2.2.2.1
def zcD (n:Nat):yE→Bool×Bool:=(zes n).2.2.2.2.2.2.2
theorem zQU (n:Nat):zkn (n+1)=znu (zmW n):=rfl
theorem zJu (n:Nat):zmW (n+1)=zjI (zcn n) (zfa n) (zcD n) (ze5 n):=rfl
theorem zGm (n:Nat):zfa (n+1)=zkD (zkn n):=rfl
theorem zFE (n:Nat):ze5 (n+1)=zkJ (zkn n):=rfl
theorem zm6 (n:Nat):zcB (n+1)=zcC (zfa n):=rfl
theorem zl2 (n:Nat):zcn (n+1)=zcl (zfa n) (zcB n):=rfl
theorem zoX (n:Nat):zc6 (n+1)=zdg (ze5 n):=rfl
theorem znf (n:Nat):zcD (n+1)=zcI (ze5 n) (zc6 n):=rfl
theorem zZe:∀ n,SdP 20 (zhW (zkn n))∧SdP 66 (zmY (zmW n))∧SdP 127 (zhW (zfa n))∧SdP 133 (zdA (ze5 n))∧SdP 161 (zcA (zcB n))∧SdP 126 (zco (zcn n))∧SdP 163 (zc5 (zc6 n))∧SdP 132 (zcE (zcD n))
 | 0=>⟨z6 Tryz.call20 (fun _=>rfl),z6 Tryz.call66 (fun _=>rfl),z6 Tryz.call127 (fun _=>rfl),z6 Tryz.call133 (fun _=>rfl),z6 Tryz.call161 (fun _=>rfl),z6 Tryz.call126 (fun _=>rfl),z6 Tryz.call163 (fun _=>rfl),z6 Tryz.call132 (fun _=>rfl)⟩
 | n+1=>by
  have ih:=zZe n;exact ⟨zL6 _ (ih.2.1),zFY _ _ _ _ (ih.2.2.2.2.2.1) (ih.2.2.1) (ih.2.2.2.2.2.2.2) (ih.2.2.2.1),zDr _ (ih.1),zDp _ (ih.1),zl5 _ (ih.2.2.1),zk2 _ _ (ih.2.2.1) (ih.2.2.2.2.1),zni _ (ih.2.2.2.1),zmo _ _ (ih.2.2.2.1) (ih.2.2.2.2.2.2.1)⟩
def zb2:yC→Bool×Bool:=zkn 1000
def annotation_Valid_spec:Ab.Spec ty:=zhW zb2
theorem zcb:SdP 20 annotation_Valid_spec:=(zZe 1000).1
def zOH (r:yC×Int):ARes ty:=⟨[.own 28 r.1,.pure (.lit (.int .i64 r.2))],[]⟩
def zSr:AL base0 (yC×((yG×Unit)×Unit)×Unit):=zd (ze (vSl 28)) (zd (ze (vFn 84 (zdz (vBox (zdz (vSl 51) vNil)) vNil))) aNil)
def zll (F:yC→yG→Bool×(yC×Int)):Ab.Spec ty:=zh zSr fun x=>((F x.1 x.2.1.1.1).1,zOH (F x.1 x.2.1.1.1).2)
def zKP:AL base0 (Atom×((yG×Unit)×Unit)×Unit):=zd (ze (vAgg 67)) (zd (ze (vFn 84 (zdz (vBox (zdz (vSl 51) vNil)) vNil))) aNil)
def zls (F:Atom→yG→Bool×(yC×Int)):Ab.Spec ty:=zh zKP fun x=>((F x.1 x.2.1.1.1).1,zOH (F x.1 x.2.1.1.1).2)
def zEn (k:Go.Value) (l:List (Go.Value×Int)):Option Int:=mget (ty:=ty) (V:=3) k l
def zbaJ (k:Go.Value) (l:List (Go.Value×Int)):Bool:=mhas (ty:=ty) (V:=3) k l
def zbaK (k:Go.Value) (x:Int) (l:List (Go.Value×Int)):List (Go.Value×Int):=mset (ty:=ty) (V:=3) k x l
def zT4 (r:ByteArray):ARes ty:=⟨[.pure (.lit (.string r))],[]⟩
def zXL:AL base0 (yC×Unit):=zd (ze (vSl 28)) aNil
def zu0 (F:yC→Bool×ByteArray):Ab.Spec ty:=zh zXL fun x=>((F x.1).1,zT4 (F x.1).2)
def zMj:AL base0 (Atom×Unit):=zd (ze (vAgg 67)) aNil
def zl6 (F:Atom→Bool×ByteArray):Ab.Spec ty:=zh zMj fun x=>((F x.1).1,zT4 (F x.1).2)
def zHU:AL base0 (yD×Unit):=zd (ze (vSl 69)) aNil
def zgk (F:yD→Bool×ByteArray):Ab.Spec ty:=zh zHU fun x=>((F x.1).1,zT4 (F x.1).2)
def zMo:Cx ty:=mkCx base 2 [] [] [] [] [] []
def zOg:Wy0 (List ByteArray):=.k [ByteArray.mk #[(67:UInt8),(79:UInt8),(85:UInt8),(78:UInt8),(84:UInt8)],ByteArray.mk #[(83:UInt8),(85:UInt8),(77:UInt8)],ByteArray.mk #[(77:UInt8),(73:UInt8),(78:UInt8)],ByteArray.mk #[(77:UInt8),(65:UInt8),(88:UInt8)]]
def zb5:Bool×List ByteArray:=(zOg).fin default
def zKz (r:List ByteArray):ARes ty:=⟨[.own 9 r],[]⟩
def zOZ:AL base (Unit):=aNil
def zy4:Ab.Spec ty:=zh zOZ fun x=>((zb5 ).1,zKz (zb5 ).2)
theorem zIv:SdP 198 zy4:=
 sW (cx':=zMo) zq zi zl (zj trivial) Tryz.call198 Tryz.func198 (c:=body Tryz.f198) (lOK aN) (sg:=⟨[.own 9],[]⟩)
def zMy:Cx ty:=mkCx base 2 [] [] [] [] [] []
def zNR:Wy0 (List ByteArray):=.k [ByteArray.mk #[(61:UInt8)],ByteArray.mk #[(60:UInt8),(62:UInt8)],ByteArray.mk #[(60:UInt8)],ByteArray.mk #[(60:UInt8),(61:UInt8)],ByteArray.mk #[(62:UInt8)],ByteArray.mk #[(62:UInt8),(61:UInt8)]]
def zdM:Bool×List ByteArray:=(zNR).fin default
def zyO:Ab.Spec ty:=zh zOZ fun x=>((zdM ).1,zKz (zdM ).2)
theorem zIQ:SdP 199 zyO:=
 sW (cx':=zMy) zq zi zl (zj trivial) Tryz.call199 Tryz.func199 (c:=body Tryz.f199) (lOK aN) (sg:=⟨[.own 9],[]⟩)
def strings_Join (l:List ByteArray) (sep:ByteArray):Bool×ByteArray:=zXs l sep
def strings_Join_spec:Ab.Spec ty:=zh (cx:=base0) (zd (ze (vSl 9)) (zd (ze vStr) aNil)) fun x=>((strings_Join x.1 x.2.1).1,⟨[.pure (.lit (.string (strings_Join x.1 x.2.1).2))],[]⟩)
theorem zAf:Sound Tryz.prog base0 169 strings_Join_spec:=z90 (T:=9) zi7 rfl Go.Proofs.Tryz.lays156 Go.Proofs.Tryz.Builder_Extra_156 Tryz.call169 (fun s:ByteArray=>s) (fun _=>rfl) strings_Join (fun l sep=>congrArg (fun l=>zXs l sep) (List.map_id' (α:=ByteArray) l).symm)
def strconv_Itoa (x:Int):Bool×ByteArray:=zSu x
def strconv_Itoa_spec:Ab.Spec ty:=zh (cx:=base) (zd (ze (vInt .i64)) aNil) fun x=>((strconv_Itoa x.1).1,⟨[.pure (.lit (.string (strconv_Itoa x.1).2))],[]⟩)
theorem zGN:SdP 168 strconv_Itoa_spec:=zbag zi Go.Proofs.Tryz.laysM171 Tryz.call168 (fun _ h=>h.1)
end Go.Proofs.YtljlfiomikifjaaGreatDoor
end
