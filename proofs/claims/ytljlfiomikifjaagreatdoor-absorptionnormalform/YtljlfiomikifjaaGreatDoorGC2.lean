/- Texts of this claim, joined (the program, its functions in plain words, and what they compute). -/
import Derived.Test.YtljlfiomikifjaaGreatDoorGC1
set_option autoImplicit false
set_option linter.unusedVariables false
set_option linter.unusedSectionVars false
set_option linter.unusedSimpArgs false
set_option maxRecDepth 1000000
set_option maxHeartbeats 0
noncomputable section
namespace Go.Proofs.YtljlfiomikifjaaGreatDoor
open Go Go.Ab
open Go.Proofs.Tryz
abbrev zuF:=Int×Unit×yC×Int×Int×yD×Int×Int×yA×Int×Int×Unit
abbrev zKT:=Int×yC×Int×Int×yD×Int×Int×Fc
abbrev zuv:=Int×yC×Int×Int×yD×Int×Int×yE×Int×Int×Unit
abbrev zKi:=Int×yC×Int×Int×yD×Int×Int
abbrev zu5:=Int×yC×Int×Int×yD×Int×Int×Unit
abbrev zJ2:=Int×yC×Int×Int
abbrev zut:=Int×yC×Int×Int×Unit
def zlf (zw:yC->Bool×Int) (n_:Int) (t12:yC) (t13:Int) (t14:Int) (t25:yD) (t26:Int) (t27:Int) (t33:yA) (t34:Int) (t35:Int) (f:Fc):Wy zuF (Fc×Unit) zKT:=.i (decide (t35<t34)) (.i (decide (0<=t35)&&decide (t35<Int.ofNat t33.length)) (.bn (zw (t33.getD t35.toNat default)) λr0=>.h ((IntKind.i64.wrap (n_+r0)),(),t12,t13,t14,t25,t26,t27,t33,t34,(IntKind.i64.wrap (t35+1)),()) (f,())) .d) (.k (n_,t12,t13,t14,t25,t26,t27,f))
def zwD (zw:yC->Bool×Int) (x:zuF) (y:Fc×Unit):=zlf zw x.1 x.2.2.1 x.2.2.2.1 x.2.2.2.2.1 x.2.2.2.2.2.1 x.2.2.2.2.2.2.1 x.2.2.2.2.2.2.2.1 x.2.2.2.2.2.2.2.2.1 x.2.2.2.2.2.2.2.2.2.1 x.2.2.2.2.2.2.2.2.2.2.1 y.1
def zF6 (zw:yC->Bool×Int) (n:Nat) (n_:Int) (t12:yC) (t13:Int) (t14:Int) (t25:yD) (t26:Int) (t27:Int) (t33:yA) (t34:Int) (t35:Int) (f:Fc):=zC (zwD zw) default n (n_,(),t12,t13,t14,t25,t26,t27,t33,t34,t35,()) (f,())
def zSD (r:zKT):LTree ty:=.done (.exit 4) [.lit (.int .i64 r.1),.ptr 248 0,.sl 28 r.2.1,.lit (.int .i64 r.2.2.1),.lit (.int .i64 r.2.2.2.1),.sl 69 r.2.2.2.2.1,.lit (.int .i64 r.2.2.2.2.2.1),.lit (.int .i64 r.2.2.2.2.2.2.1)] [.box (base.enc 69 r.2.2.2.2.2.2.2) false]
def zTC:LL ty zuF:=za zj (za (ze3 248 0) (za (lSl 28) (za zj (za zj (za (lSl 69) (za zj (za zj (za (lSl 23) (za zj (za zj zl))))))))))
def zUD:BL ty (Fc×Unit):=zhS (zf1 (λx=>(⟨⟨x.1,⟨x.2.1,x.2.2.1⟩,x.2.2.2.1,x.2.2.2.2.1,x.2.2.2.2.2.1,x.2.2.2.2.2.2.1,⟨x.2.2.2.2.2.2.2.1,x.2.2.2.2.2.2.2.2.1,x.2.2.2.2.2.2.2.2.2.1⟩⟩,x.2.2.2.2.2.2.2.2.2.2.1⟩:Fc)) (λx=>(x.At.Kind,x.At.Row.Table,x.At.Row.Seq,x.At.Ag,x.At.Func,x.At.Items,x.At.Op,x.At.Bd.Kind,x.At.Bd.Int,x.At.Bd.Text,x.Exp,())) (λ_=>rfl) (za (zR .i64) (za (zR .i64) (za (zR .i64) (za (lSl 23) (za (zR .i64) (za (lSl 100) (za (zR .i64) (za (zR .i64) (za (zR .i64) (za zrP (za (zR .i64) zl)))))))))))) false (zbd)
def zk6 (zw:yC->Bool×Int) (n_:Int) (t12:yC) (t13:Int) (t14:Int) (t25:yD) (t26:Int) (t27:Int) (t46:yE) (t47:Int) (t48:Int):Wy zuv Unit zKi:=.i (decide (t48<t47)) (.i (decide (0<=t48)&&decide (t48<Int.ofNat t46.length)) (.bn (zw (t46.getD t48.toNat default).Ann) λr2=>.h ((IntKind.i64.wrap (n_+IntKind.i64.wrap (1+r2))),t12,t13,t14,t25,t26,t27,t46,t47,(IntKind.i64.wrap (t48+1)),()) ()) .d) (.k (n_,t12,t13,t14,t25,t26,t27))
def zxH (zw:yC->Bool×Int) (x:zuv) (y:Unit):=zk6 zw x.1 x.2.1 x.2.2.1 x.2.2.2.1 x.2.2.2.2.1 x.2.2.2.2.2.1 x.2.2.2.2.2.2.1 x.2.2.2.2.2.2.2.1 x.2.2.2.2.2.2.2.2.1 x.2.2.2.2.2.2.2.2.2.1
def zGm (zw:yC->Bool×Int) (n:Nat) (n_:Int) (t12:yC) (t13:Int) (t14:Int) (t25:yD) (t26:Int) (t27:Int) (t46:yE) (t47:Int) (t48:Int):=zC (zxH zw) default n (n_,t12,t13,t14,t25,t26,t27,t46,t47,t48,()) ()
def zRQ (r:zKi):LTree ty:=.done (.exit 6) [.lit (.int .i64 r.1),.sl 28 r.2.1,.lit (.int .i64 r.2.2.1),.lit (.int .i64 r.2.2.2.1),.sl 69 r.2.2.2.2.1,.lit (.int .i64 r.2.2.2.2.2.1),.lit (.int .i64 r.2.2.2.2.2.2)] []
def zUo:LL ty zuv:=za zj (za (lSl 28) (za zj (za zj (za (lSl 69) (za zj (za zj (za (lSl 100) (za zj (za zj zl)))))))))
def zmv (zw:yC->Bool×Int) (n_:Int) (t12:yC) (t13:Int) (t14:Int) (t25:yD) (t26:Int) (t27:Int):Wy zu5 Unit zJ2:=.i (decide (t27<t26)) (.i (decide (0<=t27)&&decide (t27<Int.ofNat t25.length)) (.bn (zF6 zw (n_.toNat +t12.length+t13.toNat +t14.toNat +t25.length+t26.toNat +t27.toNat +(t25.getD t27.toNat default).At.Ag.length+(Int.ofNat (t25.getD t27.toNat default).At.Ag.length).toNat +Int.toNat 0+(t25.getD t27.toNat default).At.Ag.length+(t25.getD t27.toNat default).At.Items.length+1) n_ t12 t13 t14 t25 t26 t27 (t25.getD t27.toNat default).At.Ag (Int.ofNat (t25.getD t27.toNat default).At.Ag.length) 0 (FO.mk (At.mk (t25.getD t27.toNat default).At.Kind (t25.getD t27.toNat default).At.Row (t25.getD t27.toNat default).At.Ag (t25.getD t27.toNat default).At.Func (t25.getD t27.toNat default).At.Items (t25.getD t27.toNat default).At.Op (t25.getD t27.toNat default).At.Bd) (t25.getD t27.toNat default).Exp)) λr5=>.bn (zGm zw (r5.1.toNat +r5.2.1.length+r5.2.2.1.toNat +r5.2.2.2.1.toNat +r5.2.2.2.2.1.length+r5.2.2.2.2.2.1.toNat +r5.2.2.2.2.2.2.1.toNat +r5.2.2.2.2.2.2.2.At.Items.length+(Int.ofNat r5.2.2.2.2.2.2.2.At.Items.length).toNat +Int.toNat 0+1) r5.1 r5.2.1 r5.2.2.1 r5.2.2.2.1 r5.2.2.2.2.1 r5.2.2.2.2.2.1 r5.2.2.2.2.2.2.1 r5.2.2.2.2.2.2.2.At.Items (Int.ofNat r5.2.2.2.2.2.2.2.At.Items.length) 0) λr4=>.h ((r4.1),(r4.2.1),(r4.2.2.1),(r4.2.2.2.1),(r4.2.2.2.2.1),(r4.2.2.2.2.2.1),(IntKind.i64.wrap (r4.2.2.2.2.2.2+1)),()) ()) .d) (.k (n_,t12,t13,t14))
def zzz (zw:yC->Bool×Int) (x:zu5) (y:Unit):=zmv zw x.1 x.2.1 x.2.2.1 x.2.2.2.1 x.2.2.2.2.1 x.2.2.2.2.2.1 x.2.2.2.2.2.2.1
def zGy (zw:yC->Bool×Int) (n:Nat) (n_:Int) (t12:yC) (t13:Int) (t14:Int) (t25:yD) (t26:Int) (t27:Int):=zC (zzz zw) default n (n_,t12,t13,t14,t25,t26,t27,()) ()
def zTo (r:zJ2):LTree ty:=.done (.exit 2) [.lit (.int .i64 r.1),.sl 28 r.2.1,.lit (.int .i64 r.2.2.1),.lit (.int .i64 r.2.2.2)] []
def zVG:LL ty zu5:=za zj (za (lSl 28) (za zj (za zj (za (lSl 69) (za zj (za zj zl))))))
def zmk (zw:yC->Bool×Int) (n_:Int) (t12:yC) (t13:Int) (t14:Int):Wy zut Unit (Int):=.i (decide (t14<t13)) (.i (decide (0<=t14)&&decide (t14<Int.ofNat t12.length)) (.bn (zGy zw ((IntKind.i64.wrap (n_+IntKind.i64.wrap (1+Int.ofNat (t12.getD t14.toNat default).Fs.length))).toNat +t12.length+t13.toNat +t14.toNat +(t12.getD t14.toNat default).Fs.length+(Int.ofNat (t12.getD t14.toNat default).Fs.length).toNat +Int.toNat 0+1) (IntKind.i64.wrap (n_+IntKind.i64.wrap (1+Int.ofNat (t12.getD t14.toNat default).Fs.length))) t12 t13 t14 (t12.getD t14.toNat default).Fs (Int.ofNat (t12.getD t14.toNat default).Fs.length) 0) λr8=>.h ((r8.1),(r8.2.1),(r8.2.2.1),(IntKind.i64.wrap (r8.2.2.2+1)),()) ()) .d) (.k n_)
def zy8 (zw:yC->Bool×Int) (x:zut) (y:Unit):=zmk zw x.1 x.2.1 x.2.2.1 x.2.2.2.1
def zHm (zw:yC->Bool×Int) (n:Nat) (n_:Int) (t12:yC) (t13:Int) (t14:Int):=zC (zy8 zw) default n (n_,t12,t13,t14,()) ()
def zTB (r:Int):LTree ty:=.done (.exit 0) [.lit (.int .i64 r)] []
def zVW:LL ty zut:=za zj (za (lSl 28) (za zj (za zj zl)))
def zRZ (x:zuF) (y:Fc×Unit):Nat:=(Int.toNat x.1+x.2.2.1.length+Int.toNat x.2.2.2.1+Int.toNat x.2.2.2.2.1+x.2.2.2.2.2.1.length+Int.toNat x.2.2.2.2.2.2.1+Int.toNat x.2.2.2.2.2.2.2.1+x.2.2.2.2.2.2.2.2.1.length+Int.toNat x.2.2.2.2.2.2.2.2.2.1+Int.toNat x.2.2.2.2.2.2.2.2.2.2.1+y.1.At.Ag.length+y.1.At.Items.length+1)
def zR7 (x:zuv) (y:Unit):Nat:=(Int.toNat x.1+x.2.1.length+Int.toNat x.2.2.1+Int.toNat x.2.2.2.1+x.2.2.2.2.1.length+Int.toNat x.2.2.2.2.2.1+Int.toNat x.2.2.2.2.2.2.1+x.2.2.2.2.2.2.2.1.length+Int.toNat x.2.2.2.2.2.2.2.2.1+Int.toNat x.2.2.2.2.2.2.2.2.2.1+1)
def zUX (x:zu5) (y:Unit):Nat:=(Int.toNat x.1+x.2.1.length+Int.toNat x.2.2.1+Int.toNat x.2.2.2.1+x.2.2.2.2.1.length+Int.toNat x.2.2.2.2.2.1+Int.toNat x.2.2.2.2.2.2.1+1)
def zTV (x:zut) (y:Unit):Nat:=(Int.toNat x.1+x.2.1.length+Int.toNat x.2.2.1+Int.toNat x.2.2.2.1+1)
def zlS (zw:yC->Bool×Int):=zbV base 62 [(115,(zpY zw))] [] [(3,(kpL [3,12,13,14])),(7,(kpL [3,12,13,14,25,26,27])),(10,(kpL [3,7,12,13,14,25,26,27,33,34,35])),(15,(kpL [3,12,13,14,25,26,27,46,47,48]))] [(3,1,(kpL [3])),(7,3,(kpL [3,12,13,14])),(10,5,(kpL [3,7,12,13,14,25,26,27])),(15,7,(kpL [3,12,13,14,25,26,27]))] [(10,spW zTC zUD (zwD zw) default zSD zRZ),(15,spW zUo zba6 (zxH zw) default zRQ zR7),(7,spW zVG zba6 (zzz zw) default zTo zUX),(3,spW zVW zba6 (zy8 zw) default zTB zTV)] []
theorem zSY (zw:yC->Bool×Int):zF (zlS zw) (lp (body f115) 2):=zq (id:=10) (hl:=rfl)
theorem zS8 (zw:yC->Bool×Int):zF (zlS zw) (lp (body f115) 3):=zq (id:=15) (hl:=rfl)
theorem zTj (zw:yC->Bool×Int):zF (zlS zw) (lp (body f115) 1):=zq (id:=7) (hl:=rfl)
theorem zTd (zw:yC->Bool×Int):zF (zlS zw) (lp (body f115) 0):=zq (id:=3) (hl:=rfl)
def zIG (zw:yC->Bool×Int) (a:yC):Wy0 (Int):=.bn (zHm zw (Int.toNat 0+a.length+(Int.ofNat a.length).toNat +Int.toNat 0+1) 0 a (Int.ofNat a.length) 0) λr10=>.k r10
def zws (zw:yC->Bool×Int) (a:yC):=(zIG zw a).fin default
theorem zQz (zw:yC->Bool×Int) (zX6:SdP 115 (zpY zw)):SdP 115 (zpY (zws zw)):=
 sT (cx':=(zlS zw)) (zk ⟨zX6,trivial⟩) call115 func115 (lOK (aC (zTd zw) (aC (zTj zw) (aC (zSY zw) (aC (zS8 zw) aN)))))
def zbbS:Nat->(yC->Bool×Int)
 | 0=>λ_=>(false,default)
 | n+1=>zws (zbbS n)
def zmB (n:Nat):yC->Bool×Int:=zbbS n
theorem zWO (n:Nat):zmB (n+1)=zws (zmB n):=rfl
theorem z59:∀ n,SdP 115 (zpY (zmB n))
 | 0=>zbb call115 (λ_=>rfl)
 | n+1=>by
  have ih:=z59 n;exact zQz _ (ih)
def zHD:yC->Bool×Int:=zmB 1000
def zHK:Ab.Spec ty:=zpY zHD
theorem zUl:SdP 115 zHK:=(z59 1000)
abbrev zpb:=Int×Unit×Int×yC×Int×Int×yD×Int×Int×yA×Int×Int×Unit
abbrev zFE:=Int×Int×yC×Int×Int×yD×Int×Int×Fc
abbrev zo3:=Int×Int×yC×Int×Int×yD×Int×Int×yE×Int×Int×Unit
abbrev zF4:=Int×Int×yC×Int×Int×yD×Int×Int
abbrev zo2:=Int×yC×Int×Int×yD×Int×Int×Unit
abbrev zFD:=Int×yC×Int×Int
abbrev zpd:=Int×yC×Int×Int×Unit
def ziT (zn:yC->Bool×Int) (n_:Int) (inner:Int) (t13:yC) (t14:Int) (t15:Int) (t20:yD) (t21:Int) (t22:Int) (t32:yA) (t33:Int) (t34:Int) (f:Fc):Wy zpb (Fc×Unit) zFE:=.i (decide (t34<t33)) (.i (decide (0<=t34)&&decide (t34<Int.ofNat t32.length)) (.bn (zn (t32.getD t34.toNat default)) λr0=>.h (n_,(),(if r0>inner then r0 else inner),t13,t14,t15,t20,t21,t22,t32,t33,(IntKind.i64.wrap (t34+1)),()) (f,())) .d) (.k (n_,inner,t13,t14,t15,t20,t21,t22,f))
def zrX (zn:yC->Bool×Int) (x:zpb) (y:Fc×Unit):=ziT zn x.1 x.2.2.1 x.2.2.2.1 x.2.2.2.2.1 x.2.2.2.2.2.1 x.2.2.2.2.2.2.1 x.2.2.2.2.2.2.2.1 x.2.2.2.2.2.2.2.2.1 x.2.2.2.2.2.2.2.2.2.1 x.2.2.2.2.2.2.2.2.2.2.1 x.2.2.2.2.2.2.2.2.2.2.2.1 y.1
def zC4 (zn:yC->Bool×Int) (n:Nat) (n_:Int) (inner:Int) (t13:yC) (t14:Int) (t15:Int) (t20:yD) (t21:Int) (t22:Int) (t32:yA) (t33:Int) (t34:Int) (f:Fc):=zC (zrX zn) default n (n_,(),inner,t13,t14,t15,t20,t21,t22,t32,t33,t34,()) (f,())
def zNz (r:zFE):LTree ty:=.done (.exit 4) [.lit (.int .i64 r.1),.ptr 256 0,.lit (.int .i64 r.2.1),.sl 28 r.2.2.1,.lit (.int .i64 r.2.2.2.1),.lit (.int .i64 r.2.2.2.2.1),.sl 69 r.2.2.2.2.2.1,.lit (.int .i64 r.2.2.2.2.2.2.1),.lit (.int .i64 r.2.2.2.2.2.2.2.1)] [.box (base.enc 69 r.2.2.2.2.2.2.2.2) false]
def zOY:LL ty zpb:=za zj (za (ze3 256 0) (za zj (za (lSl 28) (za zj (za zj (za (lSl 69) (za zj (za zj (za (lSl 23) (za zj (za zj zl)))))))))))
def ziZ (zn:yC->Bool×Int) (n_:Int) (inner:Int) (t13:yC) (t14:Int) (t15:Int) (t20:yD) (t21:Int) (t22:Int) (t45:yE) (t46:Int) (t47:Int):Wy zo3 Unit zF4:=.i (decide (t47<t46)) (.i (decide (0<=t47)&&decide (t47<Int.ofNat t45.length)) (.bn (zn (t45.getD t47.toNat default).Ann) λr2=>.h (n_,(if r2>inner then r2 else inner),t13,t14,t15,t20,t21,t22,t45,t46,(IntKind.i64.wrap (t47+1)),()) ()) .d) (.k (n_,inner,t13,t14,t15,t20,t21,t22))
def zr1 (zn:yC->Bool×Int) (x:zo3) (y:Unit):=ziZ zn x.1 x.2.1 x.2.2.1 x.2.2.2.1 x.2.2.2.2.1 x.2.2.2.2.2.1 x.2.2.2.2.2.2.1 x.2.2.2.2.2.2.2.1 x.2.2.2.2.2.2.2.2.1 x.2.2.2.2.2.2.2.2.2.1 x.2.2.2.2.2.2.2.2.2.2.1
def zCH (zn:yC->Bool×Int) (n:Nat) (n_:Int) (inner:Int) (t13:yC) (t14:Int) (t15:Int) (t20:yD) (t21:Int) (t22:Int) (t45:yE) (t46:Int) (t47:Int):=zC (zr1 zn) default n (n_,inner,t13,t14,t15,t20,t21,t22,t45,t46,t47,()) ()
def zNI (r:zF4):LTree ty:=.done (.exit 6) [.lit (.int .i64 r.1),.lit (.int .i64 r.2.1),.sl 28 r.2.2.1,.lit (.int .i64 r.2.2.2.1),.lit (.int .i64 r.2.2.2.2.1),.sl 69 r.2.2.2.2.2.1,.lit (.int .i64 r.2.2.2.2.2.2.1),.lit (.int .i64 r.2.2.2.2.2.2.2)] []
def zP8:LL ty zo3:=za zj (za zj (za (lSl 28) (za zj (za zj (za (lSl 69) (za zj (za zj (za (lSl 100) (za zj (za zj zl))))))))))
def zjT (zn:yC->Bool×Int) (n_:Int) (t13:yC) (t14:Int) (t15:Int) (t20:yD) (t21:Int) (t22:Int):Wy zo2 Unit zFD:=.i (decide (t22<t21)) (.i (decide (0<=t22)&&decide (t22<Int.ofNat t20.length)) (.i ((t20.getD t22.toNat default).At.Kind==0) (.h (n_,t13,t14,t15,t20,t21,(IntKind.i64.wrap (t22+1)),()) ()) (.bn (zC4 zn (n_.toNat +Int.toNat 0+t13.length+t14.toNat +t15.toNat +t20.length+t21.toNat +t22.toNat +(t20.getD t22.toNat default).At.Ag.length+(Int.ofNat (t20.getD t22.toNat default).At.Ag.length).toNat +Int.toNat 0+(t20.getD t22.toNat default).At.Ag.length+(t20.getD t22.toNat default).At.Items.length+1) n_ 0 t13 t14 t15 t20 t21 t22 (t20.getD t22.toNat default).At.Ag (Int.ofNat (t20.getD t22.toNat default).At.Ag.length) 0 (FO.mk (At.mk (t20.getD t22.toNat default).At.Kind (t20.getD t22.toNat default).At.Row (t20.getD t22.toNat default).At.Ag (t20.getD t22.toNat default).At.Func (t20.getD t22.toNat default).At.Items (t20.getD t22.toNat default).At.Op (t20.getD t22.toNat default).At.Bd) (t20.getD t22.toNat default).Exp)) λr5=>.bn (zCH zn (r5.1.toNat +r5.2.1.toNat +r5.2.2.1.length+r5.2.2.2.1.toNat +r5.2.2.2.2.1.toNat +r5.2.2.2.2.2.1.length+r5.2.2.2.2.2.2.1.toNat +r5.2.2.2.2.2.2.2.1.toNat +r5.2.2.2.2.2.2.2.2.At.Items.length+(Int.ofNat r5.2.2.2.2.2.2.2.2.At.Items.length).toNat +Int.toNat 0+1) r5.1 r5.2.1 r5.2.2.1 r5.2.2.2.1 r5.2.2.2.2.1 r5.2.2.2.2.2.1 r5.2.2.2.2.2.2.1 r5.2.2.2.2.2.2.2.1 r5.2.2.2.2.2.2.2.2.At.Items (Int.ofNat r5.2.2.2.2.2.2.2.2.At.Items.length) 0) λr4=>.h ((if IntKind.i64.wrap (1+r4.2.1)>r4.1 then IntKind.i64.wrap (1+r4.2.1) else r4.1),(r4.2.2.1),(r4.2.2.2.1),(r4.2.2.2.2.1),(r4.2.2.2.2.2.1),(r4.2.2.2.2.2.2.1),(IntKind.i64.wrap (r4.2.2.2.2.2.2.2+1)),()) ())) .d) (.k (n_,t13,t14,t15))
def ztz (zn:yC->Bool×Int) (x:zo2) (y:Unit):=zjT zn x.1 x.2.1 x.2.2.1 x.2.2.2.1 x.2.2.2.2.1 x.2.2.2.2.2.1 x.2.2.2.2.2.2.1
def zDR (zn:yC->Bool×Int) (n:Nat) (n_:Int) (t13:yC) (t14:Int) (t15:Int) (t20:yD) (t21:Int) (t22:Int):=zC (ztz zn) default n (n_,t13,t14,t15,t20,t21,t22,()) ()
def zPE (r:zFD):LTree ty:=.done (.exit 2) [.lit (.int .i64 r.1),.sl 28 r.2.1,.lit (.int .i64 r.2.2.1),.lit (.int .i64 r.2.2.2)] []
def zQA:LL ty zo2:=za zj (za (lSl 28) (za zj (za zj (za (lSl 69) (za zj (za zj zl))))))
def zjP (zn:yC->Bool×Int) (n_:Int) (t13:yC) (t14:Int) (t15:Int):Wy zpd Unit (Int):=.i (decide (t15<t14)) (.i (decide (0<=t15)&&decide (t15<Int.ofNat t13.length)) (.bn (zDR zn (n_.toNat +t13.length+t14.toNat +t15.toNat +(t13.getD t15.toNat default).Fs.length+(Int.ofNat (t13.getD t15.toNat default).Fs.length).toNat +Int.toNat 0+1) n_ t13 t14 t15 (t13.getD t15.toNat default).Fs (Int.ofNat (t13.getD t15.toNat default).Fs.length) 0) λr8=>.h ((r8.1),(r8.2.1),(r8.2.2.1),(IntKind.i64.wrap (r8.2.2.2+1)),()) ()) .d) (.k n_)
def ztK (zn:yC->Bool×Int) (x:zpd) (y:Unit):=zjP zn x.1 x.2.1 x.2.2.1 x.2.2.2.1
def zD0 (zn:yC->Bool×Int) (n:Nat) (n_:Int) (t13:yC) (t14:Int) (t15:Int):=zC (ztK zn) default n (n_,t13,t14,t15,()) ()
def zQs:LL ty zpd:=za zj (za (lSl 28) (za zj (za zj zl)))
def zNk (x:zpb) (y:Fc×Unit):Nat:=(Int.toNat x.1+Int.toNat x.2.2.1+x.2.2.2.1.length+Int.toNat x.2.2.2.2.1+Int.toNat x.2.2.2.2.2.1+x.2.2.2.2.2.2.1.length+Int.toNat x.2.2.2.2.2.2.2.1+Int.toNat x.2.2.2.2.2.2.2.2.1+x.2.2.2.2.2.2.2.2.2.1.length+Int.toNat x.2.2.2.2.2.2.2.2.2.2.1+Int.toNat x.2.2.2.2.2.2.2.2.2.2.2.1+y.1.At.Ag.length+y.1.At.Items.length+1)
def zNN (x:zo3) (y:Unit):Nat:=(Int.toNat x.1+Int.toNat x.2.1+x.2.2.1.length+Int.toNat x.2.2.2.1+Int.toNat x.2.2.2.2.1+x.2.2.2.2.2.1.length+Int.toNat x.2.2.2.2.2.2.1+Int.toNat x.2.2.2.2.2.2.2.1+x.2.2.2.2.2.2.2.2.1.length+Int.toNat x.2.2.2.2.2.2.2.2.2.1+Int.toNat x.2.2.2.2.2.2.2.2.2.2.1+1)
def zOZ (x:zo2) (y:Unit):Nat:=(Int.toNat x.1+x.2.1.length+Int.toNat x.2.2.1+Int.toNat x.2.2.2.1+x.2.2.2.2.1.length+Int.toNat x.2.2.2.2.2.1+Int.toNat x.2.2.2.2.2.2.1+1)
def zO2 (x:zpd) (y:Unit):Nat:=(Int.toNat x.1+x.2.1.length+Int.toNat x.2.2.1+Int.toNat x.2.2.2.1+1)
def zjQ (zn:yC->Bool×Int):=zbV base 64 [(114,(zpY zn))] [] [(3,(kpL [3,13,14,15])),(6,(kpL [3,13,14,15,20,21,22])),(11,(kpL [3,7,8,13,14,15,20,21,22,32,33,34])),(16,(kpL [3,8,13,14,15,20,21,22,45,46,47]))] [(3,1,(kpL [3])),(6,3,(kpL [3,13,14,15])),(11,5,(kpL [3,7,8,13,14,15,20,21,22])),(16,7,(kpL [3,8,13,14,15,20,21,22]))] [(11,spW zOY zUD (zrX zn) default zNz zNk),(16,spW zP8 zba6 (zr1 zn) default zNI zNN),(6,spW zQA zba6 (ztz zn) default zPE zOZ),(3,spW zQs zba6 (ztK zn) default zTB zO2)] []
theorem zNA (zn:yC->Bool×Int):zF (zjQ zn) (lp (body f114) 2):=zq (id:=11) (hl:=rfl)
theorem zNL (zn:yC->Bool×Int):zF (zjQ zn) (lp (body f114) 3):=zq (id:=16) (hl:=rfl)
theorem zOB (zn:yC->Bool×Int):zF (zjQ zn) (lp (body f114) 1):=zq (id:=6) (hl:=rfl)
theorem zOO (zn:yC->Bool×Int):zF (zjQ zn) (lp (body f114) 0):=zq (id:=3) (hl:=rfl)
def zEX (zn:yC->Bool×Int) (a:yC):Wy0 (Int):=.bn (zD0 zn (Int.toNat 0+a.length+(Int.ofNat a.length).toNat +Int.toNat 0+1) 0 a (Int.ofNat a.length) 0) λr10=>.k r10
def zqQ (zn:yC->Bool×Int) (a:yC):=(zEX zn a).fin default
theorem zLp (zn:yC->Bool×Int) (zR2:SdP 114 (zpY zn)):SdP 114 (zpY (zqQ zn)):=
 sT (cx':=(zjQ zn)) (zk ⟨zR2,trivial⟩) call114 func114 (lOK (aC (zOO zn) (aC (zOB zn) (aC (zNA zn) (aC (zNL zn) aN)))))
def z34:Nat->(yC->Bool×Int)
 | 0=>λ_=>(false,default)
 | n+1=>zqQ (z34 n)
def zg0 (n:Nat):yC->Bool×Int:=z34 n
theorem zQt (n:Nat):zg0 (n+1)=zqQ (zg0 n):=rfl
theorem zXh:∀ n,SdP 114 (zpY (zg0 n))
 | 0=>zbb call114 (λ_=>rfl)
 | n+1=>by
  have ih:=zXh n;exact zLp _ (ih)
def zCc:yC->Bool×Int:=zg0 1000
def zDX:Ab.Spec ty:=zpY zCc
theorem zO4:SdP 114 zDX:=(zXh 1000)
def zLK:=zbr base 13 []
def zBp (f:Fc):Wy0 (Bool):=.i (decide (f.Exp>64)) (.k true) (.k (decide (Int.ofNat f.At.Items.length>1024)))
def zgP (f:Fc):=(zBp f).fin default
def zMW:AL base (Fc×Unit):=ze (zf (zcK 69)) zu
def zjr:=zi zMW λx=>((zgP x.1).1,zYq (zgP x.1).2)
theorem zmO:SdP 117 zjr:=
 sT (cx':=zLK) (zk trivial) call117 func117 (lOK aN)
abbrev zeK:=yD×Unit×Int×Int×Unit
def zkc (s:yD) (t7:Int) (t8:Int):Wy zeK Unit (Int⊕Unit):=.i (decide (t8<t7)) (.i (decide (0<=t8)&&decide (t8<Int.ofNat s.length)) (.bn (zgP (FO.mk (At.mk (s.getD t8.toNat default).At.Kind (s.getD t8.toNat default).At.Row (s.getD t8.toNat default).At.Ag (s.getD t8.toNat default).At.Func (s.getD t8.toNat default).At.Items (s.getD t8.toNat default).At.Op (s.getD t8.toNat default).At.Bd) (s.getD t8.toNat default).Exp)) λr0=>.i (r0) (.k (.inl t8)) (.h (s,(),t7,(IntKind.i64.wrap (t8+1)),()) ())) .d) (.k (.inr ()))
def zdR (x:zeK) (y:Unit):=zkc x.1 x.2.2.1 x.2.2.2.1
def zki (n:Nat) (s:yD) (t7:Int) (t8:Int):=zC (zdR) (.inl default) n (s,(),t7,t8,()) ()
def ztL (r:Int⊕Unit):LTree ty:=.ite (isL r) (.done .ret [.lit (.int .i64 (getL r))] []) (.done (.exit 0) [] [])
def zuV:LL ty zeK:=za (lSl 69) (za (lFn 117 (zl)) (za zj (za zj zl)))
def ztA (x:zeK) (y:Unit):Nat:=(x.1.length+Int.toNat x.2.2.1+Int.toNat x.2.2.2.1+1)
def zkg:=zbV base 19 [(117,zjr)] [] [(2,(kpL [0,1,7,8]))] [(2,1,[]),(2,0,(kpL [4]))] [(2,spW zuV zba6 (zdR) (.inl default) ztL ztA)] []
theorem ztO:zF zkg (lp (body f103) 0):=zq (id:=2) (hl:=rfl)
def zkL (s:yD):Wy0 (Int):=.bn (zki (s.length+(Int.ofNat s.length).toNat +Int.toNat 0+1) s (Int.ofNat s.length) 0) λr2=>.i (isL r2) (.k (getL r2)) (.k (-1:Int))
def zc5 (s:yD):=(zkL s).fin default
def zvX:AL base (yD×Unit×Unit):=ze (zf (vSl 69)) (ze (zf (vFn 117 zb5)) zu)
def zjb:=zi zvX λx=>((zc5 x.1).1,zSM (zc5 x.1).2)
theorem zsw:SdP 103 zjb:=
 sT (cx':=zkg) (zk ⟨zmO,trivial⟩) call103 func103 (lOK (aC ztO aN))
def zsn:=zbr base 9 [(103,zjb),(117,zjr)]
def zja (s:yD):Wy0 (Bool):=.bn (zc5 s) λr0=>.k (decide (r0≥0))
def zcI (s:yD):=(zja s).fin default
def zh2:=zi zvX λx=>((zcI x.1).1,zYq (zcI x.1).2)
theorem zp7:SdP 49 zh2:=
 sT (cx':=zsn) (zk ⟨zsw,zmO,trivial⟩) call49 func49 (lOK aN)
def zQP:=zbr base 12 [(49,zh2),(117,zjr)]
def zEA (t:Term):Wy0 (Bool):=.i (decide (Int.ofNat t.Fs.length>64)) (.k true) (.bn (zcI t.Fs) λr0=>.k r0)
def zmo (t:Term):=(zEA t).fin default
def zSj:AL base (Term×Unit):=ze (zf (zcK 28)) zu
def zlu:=zi zSj λx=>((zmo x.1).1,zYq (zmo x.1).2)
theorem zpE:SdP 116 zlu:=
 sT (cx':=zQP) (zk ⟨zp7,zmO,trivial⟩) call116 func116 (lOK aN)
abbrev zey:=yC×Unit×Int×Int×Unit
def zud (s:yC) (t7:Int) (t8:Int):Wy zey Unit (Int⊕Unit):=.i (decide (t8<t7)) (.i (decide (0<=t8)&&decide (t8<Int.ofNat s.length)) (.bn (zmo (s.getD t8.toNat default)) λr0=>.i (r0) (.k (.inl t8)) (.h (s,(),t7,(IntKind.i64.wrap (t8+1)),()) ())) .d) (.k (.inr ()))
def zjR (x:zey) (y:Unit):=zud x.1 x.2.2.1 x.2.2.2.1
def ztD (n:Nat) (s:yC) (t7:Int) (t8:Int):=zC (zjR) (.inl default) n (s,(),t7,t8,()) ()
def ztW:LL ty zey:=za (lSl 28) (za (lFn 116 (zl)) (za zj (za zj zl)))
def ztg (x:zey) (y:Unit):Nat:=(x.1.length+Int.toNat x.2.2.1+Int.toNat x.2.2.2.1+1)
def zjA:=zbV base 19 [(116,zlu)] [] [(2,(kpL [0,1,7,8]))] [(2,1,[]),(2,0,(kpL [4]))] [(2,spW ztW zba6 (zjR) (.inl default) ztL ztg)] []
theorem zs2:zF zjA (lp (body f113) 0):=zq (id:=2) (hl:=rfl)
def zuu (s:yC):Wy0 (Int):=.bn (ztD (s.length+(Int.ofNat s.length).toNat +Int.toNat 0+1) s (Int.ofNat s.length) 0) λr2=>.i (isL r2) (.k (getL r2)) (.k (-1:Int))
def zeh (s:yC):=(zuu s).fin default
def zu1:AL base (yC×Unit×Unit):=ze (zf (vSl 28)) (ze (zf (vFn 116 zb5)) zu)
def ziM:=zi zu1 λx=>((zeh x.1).1,zSM (zeh x.1).2)
theorem zrJ:SdP 113 ziM:=
 sT (cx':=zjA) (zk ⟨zpE,trivial⟩) call113 func113 (lOK (aC zs2 aN))
def zrg:=zbr base 9 [(113,ziM),(116,zlu)]
def ziH (s:yC):Wy0 (Bool):=.bn (zeh s) λr0=>.k (decide (r0≥0))
def zcD (s:yC):=(ziH s).fin default
def zhB:=zi zu1 λx=>((zcD x.1).1,zYq (zcD x.1).2)
theorem zpv:SdP 59 zhB:=
 sT (cx':=zrg) (zk ⟨zrJ,zpE,trivial⟩) call59 func59 (lOK aN)
def zWk:=zbr base 19 [(59,zhB),(114,zDX),(115,zHK),(116,zlu)]
def zIp (a:yC):Wy0 (Bool):=.i (decide (Int.ofNat a.length>512)) (.k false) (.bn (zCc a) λr2=>.i (decide (r2>8)) (.k false) (.bn (zHD a) λr1=>.i (decide (r1>4096)) (.k false) (.bn (zcD a) λr0=>.k (!r0))))
def zmy (a:yC):=(zIp a).fin default
def zvH:=zi zZm λx=>((zmy x.1).1,zYq (zmy x.1).2)
theorem zDL:SdP 62 zvH:=
 sT (cx':=zWk) (zk ⟨zpv,zO4,zUl,zpE,trivial⟩) call62 func62 (lOK aN)
abbrev zsN:=yC×Unit×yC×Int×Int×yD×Int×Int×Unit
abbrev zIq:=Bool⊕(yC×yC×Int×Int)
abbrev zsM:=yC×yC×Int×Int×Unit
def zle (zH:At->Bool×Bool) (a:yC) (t10:yC) (t11:Int) (t12:Int) (t40:yD) (t41:Int) (t42:Int) (t:Term):Wy zsN (Term×Unit) zIq:=.i (decide (t42<t41)) (.i (decide (0<=t42)&&decide (t42<Int.ofNat t40.length)) (.i (decide ((t40.getD t42.toNat default).Exp<1)) (.k (.inl false)) (.bn (zgn (At.mk (t40.getD t42.toNat default).At.Kind (t40.getD t42.toNat default).At.Row (t40.getD t42.toNat default).At.Ag (t40.getD t42.toNat default).At.Func (t40.getD t42.toNat default).At.Items (t40.getD t42.toNat default).At.Op (t40.getD t42.toNat default).At.Bd)) λr6=>.i (r6) (.i ((t40.getD t42.toNat default).Exp != 1) (.k (.inl false)) (.i (decide (t42>0)) (.i (decide (0<=IntKind.i64.wrap (t42 - 1))&&decide (IntKind.i64.wrap (t42 - 1)<Int.ofNat t.Fs.length)) (.bn (zjO (At.mk (t.Fs.getD (IntKind.i64.wrap (t42 - 1)).toNat default).At.Kind (t.Fs.getD (IntKind.i64.wrap (t42 - 1)).toNat default).At.Row (t.Fs.getD (IntKind.i64.wrap (t42 - 1)).toNat default).At.Ag (t.Fs.getD (IntKind.i64.wrap (t42 - 1)).toNat default).At.Func (t.Fs.getD (IntKind.i64.wrap (t42 - 1)).toNat default).At.Items (t.Fs.getD (IntKind.i64.wrap (t42 - 1)).toNat default).At.Op (t.Fs.getD (IntKind.i64.wrap (t42 - 1)).toNat default).At.Bd) (At.mk (t40.getD t42.toNat default).At.Kind (t40.getD t42.toNat default).At.Row (t40.getD t42.toNat default).At.Ag (t40.getD t42.toNat default).At.Func (t40.getD t42.toNat default).At.Items (t40.getD t42.toNat default).At.Op (t40.getD t42.toNat default).At.Bd)) λr1=>.i (decide (r1≥0)) (.k (.inl false)) (.bn (zH (At.mk (t40.getD t42.toNat default).At.Kind (t40.getD t42.toNat default).At.Row (t40.getD t42.toNat default).At.Ag (t40.getD t42.toNat default).At.Func (t40.getD t42.toNat default).At.Items (t40.getD t42.toNat default).At.Op (t40.getD t42.toNat default).At.Bd)) λr0=>.i (!r0) (.k (.inl false)) (.h (a,(),t10,t11,t12,t40,t41,(IntKind.i64.wrap (t42+1)),()) (t,())))) .d) (.bn (zH (At.mk (t40.getD t42.toNat default).At.Kind (t40.getD t42.toNat default).At.Row (t40.getD t42.toNat default).At.Ag (t40.getD t42.toNat default).At.Func (t40.getD t42.toNat default).At.Items (t40.getD t42.toNat default).At.Op (t40.getD t42.toNat default).At.Bd)) λr2=>.i (!r2) (.k (.inl false)) (.h (a,(),t10,t11,t12,t40,t41,(IntKind.i64.wrap (t42+1)),()) (t,()))))) (.i (decide (t42>0)) (.i (decide (0<=IntKind.i64.wrap (t42 - 1))&&decide (IntKind.i64.wrap (t42 - 1)<Int.ofNat t.Fs.length)) (.bn (zjO (At.mk (t.Fs.getD (IntKind.i64.wrap (t42 - 1)).toNat default).At.Kind (t.Fs.getD (IntKind.i64.wrap (t42 - 1)).toNat default).At.Row (t.Fs.getD (IntKind.i64.wrap (t42 - 1)).toNat default).At.Ag (t.Fs.getD (IntKind.i64.wrap (t42 - 1)).toNat default).At.Func (t.Fs.getD (IntKind.i64.wrap (t42 - 1)).toNat default).At.Items (t.Fs.getD (IntKind.i64.wrap (t42 - 1)).toNat default).At.Op (t.Fs.getD (IntKind.i64.wrap (t42 - 1)).toNat default).At.Bd) (At.mk (t40.getD t42.toNat default).At.Kind (t40.getD t42.toNat default).At.Row (t40.getD t42.toNat default).At.Ag (t40.getD t42.toNat default).At.Func (t40.getD t42.toNat default).At.Items (t40.getD t42.toNat default).At.Op (t40.getD t42.toNat default).At.Bd)) λr4=>.i (decide (r4≥0)) (.k (.inl false)) (.bn (zH (At.mk (t40.getD t42.toNat default).At.Kind (t40.getD t42.toNat default).At.Row (t40.getD t42.toNat default).At.Ag (t40.getD t42.toNat default).At.Func (t40.getD t42.toNat default).At.Items (t40.getD t42.toNat default).At.Op (t40.getD t42.toNat default).At.Bd)) λr3=>.i (!r3) (.k (.inl false)) (.h (a,(),t10,t11,t12,t40,t41,(IntKind.i64.wrap (t42+1)),()) (t,())))) .d) (.bn (zH (At.mk (t40.getD t42.toNat default).At.Kind (t40.getD t42.toNat default).At.Row (t40.getD t42.toNat default).At.Ag (t40.getD t42.toNat default).At.Func (t40.getD t42.toNat default).At.Items (t40.getD t42.toNat default).At.Op (t40.getD t42.toNat default).At.Bd)) λr5=>.i (!r5) (.k (.inl false)) (.h (a,(),t10,t11,t12,t40,t41,(IntKind.i64.wrap (t42+1)),()) (t,())))))) .d) (.k (.inr (a,t10,t11,t12)))
def zxi (zH:At->Bool×Bool) (x:zsN) (y:Term×Unit):=zle zH x.1 x.2.2.1 x.2.2.2.1 x.2.2.2.2.1 x.2.2.2.2.2.1 x.2.2.2.2.2.2.1 x.2.2.2.2.2.2.2.1 y.1
def zxB (zH:At->Bool×Bool) (n:Nat) (a:yC) (t10:yC) (t11:Int) (t12:Int) (t40:yD) (t41:Int) (t42:Int) (t:Term):=zC (zxi zH) (.inl default) n (a,(),t10,t11,t12,t40,t41,t42,()) (t,())
def zSQ (r:zIq):LTree ty:=.ite (isL r) (.done .ret [.lit (.bool (getL r))] []) (.done (.exit 2) [.sl 28 (getR r).1,.sl 28 (getR r).2.1,.lit (.int .i64 (getR r).2.2.1),.lit (.int .i64 (getR r).2.2.2)] [])
def zT0:LL ty zsN:=za (lSl 28) (za (ze3 340 0) (za (lSl 28) (za zj (za zj (za (lSl 69) (za zj (za zj zl)))))))
def zTu:BL ty (Term×Unit):=zhS (zf1 (λx=>(⟨x.1,x.2.1⟩:Term)) (λx=>(x.Cf,x.Fs,())) (λ_=>rfl) (za (zR .i64) (za (lSl 69) zl))) false (zbd)
def zll (zH:At->Bool×Bool) (a:yC) (t10:yC) (t11:Int) (t12:Int):Wy zsM Unit (Bool⊕Unit):=.i (decide (t12<t11)) (.i (decide (0<=t12)&&decide (t12<Int.ofNat t10.length)) (.i (decide ((t10.getD t12.toNat default).Cf<1)) (.k (.inl false)) (.i (decide ((t10.getD t12.toNat default).Cf>1152921504606846976)) (.k (.inl false)) (.i (decide (t12>0)) (.i (decide (0<=IntKind.i64.wrap (t12 - 1))&&decide (IntKind.i64.wrap (t12 - 1)<Int.ofNat a.length)) (.bn (zb9 (a.getD (IntKind.i64.wrap (t12 - 1)).toNat default) (t10.getD t12.toNat default)) λr15=>.i (decide (r15≥0)) (.k (.inl false)) (.bn (zxB zH (a.length+t10.length+t11.toNat +t12.toNat +(t10.getD t12.toNat default).Fs.length+(Int.ofNat (t10.getD t12.toNat default).Fs.length).toNat +Int.toNat 0+(t10.getD t12.toNat default).Fs.length+1) a t10 t11 t12 (t10.getD t12.toNat default).Fs (Int.ofNat (t10.getD t12.toNat default).Fs.length) 0 (t10.getD t12.toNat default)) λr14=>.i (isL r14) (.k (.inl (getL r14))) (.h ((getR r14).1,(getR r14).2.1,(getR r14).2.2.1,(IntKind.i64.wrap ((getR r14).2.2.2+1)),()) ()))) .d) (.bn (zxB zH (a.length+t10.length+t11.toNat +t12.toNat +(t10.getD t12.toNat default).Fs.length+(Int.ofNat (t10.getD t12.toNat default).Fs.length).toNat +Int.toNat 0+(t10.getD t12.toNat default).Fs.length+1) a t10 t11 t12 (t10.getD t12.toNat default).Fs (Int.ofNat (t10.getD t12.toNat default).Fs.length) 0 (t10.getD t12.toNat default)) λr16=>.i (isL r16) (.k (.inl (getL r16))) (.h ((getR r16).1,(getR r16).2.1,(getR r16).2.2.1,(IntKind.i64.wrap ((getR r16).2.2.2+1)),()) ()))))) .d) (.k (.inr ()))
def zw5 (zH:At->Bool×Bool) (x:zsM) (y:Unit):=zll zH x.1 x.2.1 x.2.2.1 x.2.2.2.1
def zFY (zH:At->Bool×Bool) (n:Nat) (a:yC) (t10:yC) (t11:Int) (t12:Int):=zC (zw5 zH) (.inl default) n (a,t10,t11,t12,()) ()
def zSV (r:Bool⊕Unit):LTree ty:=.ite (isL r) (.done .ret [.lit (.bool (getL r))] []) (.done (.exit 0) [] [])
def zTv:LL ty zsM:=za (lSl 28) (za (lSl 28) (za zj (za zj zl)))
def zST (x:zsN) (y:Term×Unit):Nat:=(x.1.length+x.2.2.1.length+Int.toNat x.2.2.2.1+Int.toNat x.2.2.2.2.1+x.2.2.2.2.2.1.length+Int.toNat x.2.2.2.2.2.2.1+Int.toNat x.2.2.2.2.2.2.2.1+y.1.Fs.length+1)
def zSG (x:zsM) (y:Unit):Nat:=(x.1.length+x.2.1.length+Int.toNat x.2.2.1+Int.toNat x.2.2.2.1+1)
def zwM (zH:At->Bool×Bool):=zbV base 85 [(62,zvH),(63,zjk),(64,zkM),(65,znP),(66,(znX zH))] [] [(4,(kpL [0,10,11,12])),(9,(kpL [0,4,10,11,12,40,41,42]))] [(4,1,[]),(4,0,(kpL [2])),(9,3,(kpL [0,10,11,12])),(9,0,(kpL [2]))] [(9,spW zT0 zTu (zxi zH) (.inl default) zSQ zST),(4,spW zTv zba6 (zw5 zH) (.inl default) zSV zSG)] []
theorem zR8 (zH:At->Bool×Bool):zF (zwM zH) (lp (body f20) 1):=zq (id:=9) (hl:=rfl)
theorem zSR (zH:At->Bool×Bool):zF (zwM zH) (lp (body f20) 0):=zq (id:=4) (hl:=rfl)
def zGH (zH:At->Bool×Bool) (a:yC):Wy0 (Bool):=.bn (zmy a) λr21=>.i (!r21) (.k false) (.bn (zFY zH (a.length+a.length+(Int.ofNat a.length).toNat +Int.toNat 0+1) a a (Int.ofNat a.length) 0) λr20=>.i (isL r20) (.k (getL r20)) (.k true))
def zox (zH:At->Bool×Bool) (a:yC):=(zGH zH a).fin default
theorem zOC (zH:At->Bool×Bool) (zOi:SdP 66 (znX zH)):SdP 20 (ziP (zox zH)):=
 sT (cx':=(zwM zH)) (zk ⟨zDL,zmN,zoN,zv7,zOi,trivial⟩) call20 func20 (lOK (aC (zSR zH) (aC (zR8 zH) aN)))
def zYe:=zbr base 9 [(67,zDZ)]
def zKa (a:yC) (b:yC):Wy0 (Bool):=.bn (zDd a b) λr0=>.k (r0==0)
def zgY (a:yC) (b:yC):=(zKa a b).fin default
def zli:=zi zWy λx=>((zgY x.1 x.2.1).1,zYq (zgY x.1 x.2.1).2)
theorem zn7:SdP 21 zli:=
 sT (cx':=zYe) (zk ⟨zOg,trivial⟩) call21 func21 (lOK aN)
def z9w:=zbr base 36 []
def zXi (v:Value):Wy0 (Bool):=.i (v.Kind==0) (.k (v.Text.toList==(ByteArray.mk #[]).toList)) (.i (v.Kind==1) (.i (v.Int==0) (.k (decide (Int.ofNat v.Text.size<=255))) (.k false)) (.i (v.Kind==2) (.i (v.Int==0) (.k (v.Text.toList==(ByteArray.mk #[]).toList)) (.i (v.Int==1) (.k (v.Text.toList==(ByteArray.mk #[]).toList)) (.k false))) (.k false)))
def zvB (v:Value):=(zXi v).fin default
def zbaC:AL base (Value×Unit):=ze (zf (zcK 65)) zu
def zyH:=zi zbaC λx=>((zvB x.1).1,zYq (zvB x.1).2)
theorem zEp:SdP 164 zyH:=
 sT (cx':=z9w) (zk trivial) call164 func164 (lOK aN)
def zOG:=zbr base 27 [(164,zyH)]
def zDV (w:Wd) (p1:Value) (p2:Int):Wy0 (Bool):=.bn (zvB w.Value) λr0=>.i (!r0) (.k true) (.i (w.Value.Kind != p1.Kind) (.k true) (.i (p2==0) (.k (w.Value.Int != 1)) (.k false)))
def zio (w:Wd) (p1:Value) (p2:Int):=(zDV w p1 p2).fin default
def zQN:AL base (Wd×Value×(Int×Unit)×Unit):=ze (zf (zcK 100)) (ze (zf (zBn 65)) (ze (zf (zvL (zdS zfh zb5))) zu))
def zkP:=zi zQN λx=>((zio x.1 x.2.1 x.2.2.1.1).1,zYq (zio x.1 x.2.1 x.2.2.1.1).2)
theorem zoG:SdP 165 zkP:=
 sT (cx':=zOG) (zk ⟨zEp,trivial⟩) call165 func165 (lOK aN)
abbrev zd8:=yE×(Value×(Int×Unit)×Unit)×Int×Int×Unit
def zrf (s:yE) (f_0:Value) (f_1:Int) (t7:Int) (t8:Int):Wy zd8 Unit (Int⊕Unit):=.i (decide (t8<t7)) (.i (decide (0<=t8)&&decide (t8<Int.ofNat s.length)) (.bn (zio (s.getD t8.toNat default) f_0 f_1) λr0=>.i (r0) (.k (.inl t8)) (.h (s,(f_0,(f_1,()),()),t7,(IntKind.i64.wrap (t8+1)),()) ())) .d) (.k (.inr ()))
def ziq (x:zd8) (y:Unit):=zrf x.1 x.2.1.1 x.2.1.2.1.1 x.2.2.1 x.2.2.2.1
def zrE (n:Nat) (s:yE) (f_0:Value) (f_1:Int) (t7:Int) (t8:Int):=zC (ziq) (.inl default) n (s,(f_0,(f_1,()),()),t7,t8,()) ()
def zrl:LL ty zd8:=za (lSl 100) (za (lFn 165 (za (zoV (zf1 (λx=>(⟨x.1,x.2.1,x.2.2.1⟩:Value)) (λx=>(x.Kind,x.Int,x.Text,())) (λ_=>rfl) (za zj (za zj (za zrP zl)))) 0) (za (zoV (za zj zl) 0) zl))) (za zj (za zj zl)))
def zqU (x:zd8) (y:Unit):Nat:=(x.1.length+Int.toNat x.2.1.2.1.1+Int.toNat x.2.2.1+Int.toNat x.2.2.2.1+1)
def zic:=zbV base 19 [(165,zkP)] [] [(2,(kpL [0,1,7,8]))] [(2,1,[]),(2,0,(kpL [4]))] [(2,spW zrl zba6 (ziq) (.inl default) ztL zqU)] []
theorem zqY:zF zic (lp (body f163) 0):=zq (id:=2) (hl:=rfl)
def zsj (s:yE) (f_0:Value) (f_1:Int):Wy0 (Int):=.bn (zrE (s.length+f_1.toNat +(Int.ofNat s.length).toNat +Int.toNat 0+1) s f_0 f_1 (Int.ofNat s.length) 0) λr2=>.i (isL r2) (.k (getL r2)) (.k (-1:Int))
def zdG (s:yE) (f_0:Value) (f_1:Int):=(zsj s f_0 f_1).fin default
def zsv:AL base (yE×(Value×(Int×Unit)×Unit)×Unit):=ze (zf (vSl 100)) (ze (zf (vFn 165 (zdS (zBn 65) (zdS (zvL (zdS zfh zb5)) zb5)))) zu)
def zhA:=zi zsv λx=>((zdG x.1 x.2.1.1 x.2.1.2.1.1).1,zSM (zdG x.1 x.2.1.1 x.2.1.2.1.1).2)
theorem zpI:SdP 163 zhA:=
 sT (cx':=zic) (zk ⟨zoG,trivial⟩) call163 func163 (lOK (aC zqY aN))
def zpH:=zbr base 9 [(163,zhA),(165,zkP)]
def zhH (s:yE) (f_0:Value) (f_1:Int):Wy0 (Bool):=.bn (zdG s f_0 f_1) λr0=>.k (decide (r0≥0))
def zbC (s:yE) (f_0:Value) (f_1:Int):=(zhH s f_0 f_1).fin default
def zgM:=zi zsv λx=>((zbC x.1 x.2.1.1 x.2.1.2.1.1).1,zYq (zbC x.1 x.2.1.1 x.2.1.2.1.1).2)
theorem zn4:SdP 132 zgM:=
 sT (cx':=zpH) (zk ⟨zpI,zoG,trivial⟩) call132 func132 (lOK aN)
def zTQ:=zbr base 43 [(132,zgM),(164,zyH),(165,zkP)]
def zHG (fn:Int) (items:yE) (op:Int) (bound:Value):Wy0 (Bool):=.i (decide (fn<0)) (.k false) (.i (decide (fn>3)) (.k false) (.i (decide (op<5)) (.k false) (.i (decide (op>10)) (.k false) (.bn (zvB bound) λr3=>.i (!r3) (.k false) (.i (fn==0) (.i (bound.Kind != 0) (.k false) (.bn (zbC items bound fn) λr0=>.k (!r0))) (.i (fn==1) (.i (bound.Kind != 0) (.k false) (.bn (zbC items bound fn) λr1=>.k (!r1))) (.bn (zbC items bound fn) λr2=>.k (!r2))))))))
def zld (fn:Int) (items:yE) (op:Int) (bound:Value):=(zHG fn items op bound).fin default
def zWx:AL base (Int×yE×Int×Value×Unit):=ze (zf zfh) (ze (zf (vSl 100)) (ze (zf zfh) (ze (zf (zcK 65)) zu)))
def ztN:=zi zWx λx=>((zld x.1 x.2.1 x.2.2.1 x.2.2.2.1).1,zYq (zld x.1 x.2.1 x.2.2.1 x.2.2.2.1).2)
theorem zCQ:SdP 135 ztN:=
 sT (cx':=zTQ) (zk ⟨zn4,zEp,zoG,trivial⟩) call135 func135 (lOK aN)
def zJh:=zbr base 7 []
def zyu (t:Term):Wy0 (Bool):=.k (Int.ofNat t.Fs.length==0)
def zh1 (t:Term):=(zyu t).fin default
def zhV:=zi zSj λx=>((zh1 x.1).1,zYq (zh1 x.1).2)
theorem zlB:SdP 162 zhV:=
 sT (cx':=zJh) (zk trivial) call162 func162 (lOK aN)
abbrev zeB:=yC×Unit×Int×Int×Unit
def zt2 (s:yC) (t7:Int) (t8:Int):Wy zeB Unit (Int⊕Unit):=.i (decide (t8<t7)) (.i (decide (0<=t8)&&decide (t8<Int.ofNat s.length)) (.i ((zh1 (s.getD t8.toNat default)).2) (.k (.inl t8)) (.h (s,(),t7,(IntKind.i64.wrap (t8+1)),()) ())) .d) (.k (.inr ()))
def zjC (x:zeB) (y:Unit):=zt2 x.1 x.2.2.1 x.2.2.2.1
def ztJ (n:Nat) (s:yC) (t7:Int) (t8:Int):=zC (zjC) (.inl default) n (s,(),t7,t8,()) ()
def ztG:LL ty zeB:=za (lSl 28) (za (lFn 162 (zl)) (za zj (za zj zl)))
def zs7 (x:zeB) (y:Unit):Nat:=(x.1.length+Int.toNat x.2.2.1+Int.toNat x.2.2.2.1+1)
def zjJ:=zbV base 19 [(162,zhV)] [] [(2,(kpL [0,1,7,8]))] [(2,1,[]),(2,0,(kpL [4]))] [(2,spW ztG zba6 (zjC) (.inl default) ztL zs7)] []
theorem zto:zF zjJ (lp (body f113) 0):=zq (id:=2) (hl:=rfl)
def zuM (s:yC):Wy0 (Int):=.bn (ztJ (s.length+(Int.ofNat s.length).toNat +Int.toNat 0+1) s (Int.ofNat s.length) 0) λr0=>.i (isL r0) (.k (getL r0)) (.k (-1:Int))
def zef (s:yC):=(zuM s).fin default
def zuT:AL base (yC×Unit×Unit):=ze (zf (vSl 28)) (ze (zf (vFn 162 zb5)) zu)
def ziX:=zi zuT λx=>((zef x.1).1,zSM (zef x.1).2)
theorem zre:SdP 113 ziX:=
 sT (cx':=zjJ) (zk ⟨zlB,trivial⟩) call113 func113 (lOK (aC zto aN))
def zrs:=zbr base 9 [(113,ziX),(162,zhV)]
def ziD (s:yC):Wy0 (Bool):=.bn (zef s) λr0=>.k (decide (r0≥0))
def zdI (s:yC):=(ziD s).fin default
def zhJ:=zi zuT λx=>((zdI x.1).1,zYq (zdI x.1).2)
theorem zpD:SdP 59 zhJ:=
 sT (cx':=zrs) (zk ⟨zre,zlB,trivial⟩) call59 func59 (lOK aN)
def zM0:=zbr base 5 [(59,zhJ),(162,zhV)]
def zCt (a:yC):Wy0 (Bool):=.bn (zdI a) λr0=>.k r0
def zfD (a:yC):=(zCt a).fin default
def zok:=zi zZm λx=>((zfD x.1).1,zYq (zfD x.1).2)
theorem zwS:SdP 131 zok:=
 sT (cx':=zM0) (zk ⟨zpD,zlB,trivial⟩) call131 func131 (lOK aN)
def zPN:=zbr base 14 []
def zD2 (a:yC):Wy0 (Bool):=.i (Int.ofNat a.length==1) (.i (decide ((0:Int)<=(0:Int))&&decide (0<Int.ofNat a.length)) (.k (Int.ofNat (a.getD (Int.toNat 0) default).Fs.length==0)) .d) (.k false)
def zii (a:yC):=(zD2 a).fin default
def zpx:=zi zZm λx=>((zii x.1).1,zYq (zii x.1).2)
theorem zym:SdP 129 zpx:=
 sT (cx':=zPN) (zk trivial) call129 func129 (lOK aN)
def zWq:=zbr base 42 [(64,zkM)]
def zIA (a:yC):Wy0 (Bool):=.i (Int.ofNat a.length != 1) (.k false) (.i (decide ((0:Int)<=(0:Int))&&decide (0<Int.ofNat a.length)) (.i ((a.getD (Int.toNat 0) default).Cf != 1) (.k false) (.i (decide ((0:Int)<=(0:Int))&&decide (0<Int.ofNat a.length)) (.i (Int.ofNat (a.getD (Int.toNat 0) default).Fs.length != 1) (.k false) (.i (decide ((0:Int)<=(0:Int))&&decide (0<Int.ofNat a.length)) (.i (decide ((0:Int)<=(0:Int))&&decide (0<Int.ofNat (a.getD (Int.toNat 0) default).Fs.length)) (.i (((a.getD (Int.toNat 0) default).Fs.getD (Int.toNat 0) default).Exp==1) (.i (((a.getD (Int.toNat 0) default).Fs.getD (Int.toNat 0) default).At.Kind==2) (.k true) (.bn (zgn (At.mk ((a.getD (Int.toNat 0) default).Fs.getD (Int.toNat 0) default).At.Kind ((a.getD (Int.toNat 0) default).Fs.getD (Int.toNat 0) default).At.Row ((a.getD (Int.toNat 0) default).Fs.getD (Int.toNat 0) default).At.Ag ((a.getD (Int.toNat 0) default).Fs.getD (Int.toNat 0) default).At.Func ((a.getD (Int.toNat 0) default).Fs.getD (Int.toNat 0) default).At.Items ((a.getD (Int.toNat 0) default).Fs.getD (Int.toNat 0) default).At.Op ((a.getD (Int.toNat 0) default).Fs.getD (Int.toNat 0) default).At.Bd)) λr0=>.k r0)) (.k false)) .d) .d)) .d)) .d)
def zmx (a:yC):=(zIA a).fin default
def zvW:=zi zZm λx=>((zmx x.1).1,zYq (zmx x.1).2)
theorem zDU:SdP 130 zvW:=
 sT (cx':=zWq) (zk ⟨zoN,trivial⟩) call130 func130 (lOK aN)
def z7l:=zbr base 11 []
def zTn (id:RowID):Wy0 (Bool):=.i (decide (id.Table≥1)) (.k (decide (id.Seq≥1))) (.k false)
def zr6 (id:RowID):=(zTn id).fin default
def z9c:AL base (RowID×Unit):=ze (zf (zcK 49)) zu
def zwt:=zi z9c λx=>((zr6 x.1).1,zYq (zr6 x.1).2)
theorem zCf:SdP 128 zwt:=
 sT (cx':=z7l) (zk trivial) call128 func128 (lOK aN)
abbrev zfs:=yE×Unit×Int×Unit
def zeV (x_:yE) (i:Int):Wy zfs Unit (Bool⊕Unit):=.i (decide (i>0)) (.i (decide (0<=i)&&decide (i<Int.ofNat x_.length)) (.i (decide (0<=IntKind.i64.wrap (i - 1))&&decide (IntKind.i64.wrap (i - 1)<Int.ofNat x_.length)) (.bn (zbP (x_.getD i.toNat default) (x_.getD (IntKind.i64.wrap (i - 1)).toNat default)) λr0=>.i (decide (r0<0)) (.k (.inl false)) (.h (x_,(),(IntKind.i64.wrap (i - 1)),()) ())) .d) .d) (.k (.inr ()))
def zig (x:zfs) (y:Unit):=zeV x.1 x.2.2.1
def zeW (n:Nat) (x_:yE) (i:Int):=zC (zig) (.inl default) n (x_,(),i,()) ()
def zrI:LL ty zfs:=za (lSl 100) (za (lFn 124 (zl)) (za zj zl))
def zih:=zbV base 25 [(124,zce)] [] [(2,(kpL [0,1,5]))] [(2,1,[]),(2,0,(kpL [4]))] [(2,spW zrI zba6 (zig) (.inl default) zSV λx y=>(x.1.length+Int.toNat x.2.2.1+1))] []
theorem zqP:zF zih (lp (body f134) 0):=zq (id:=2) (hl:=rfl)
def ziw (x_:yE):Wy0 (Bool):=.bn (zeW (x_.length+(IntKind.i64.wrap (Int.ofNat x_.length - 1)).toNat +1) x_ (IntKind.i64.wrap (Int.ofNat x_.length - 1))) λr2=>.i (isL r2) (.k (getL r2)) (.k true)
def zcC (x_:yE):=(ziw x_).fin default
def zrY:AL base (yE×Unit×Unit):=ze (zf (vSl 100)) (ze (zf (vFn 124 zb5)) zu)
def zhF:=zi zrY λx=>((zcC x.1).1,zYq (zcC x.1).2)
theorem zpG:SdP 134 zhF:=
 sT (cx':=zih) (zk ⟨zco,trivial⟩) call134 func134 (lOK (aC zqP aN))
def zda (zc:yA->Bool×Bool) (zg:yC->Bool×Bool) (zd:yE->Bool×Bool) (zh:Wd->Bool×Bool):=zbr base 149 [(21,zli),(124,zce),(126,(zcE zc)),(127,(ziP zg)),(128,zwt),(129,zpx),(130,zvW),(131,zok),(132,(zc2 zd)),(133,(zdT zh)),(134,zhF),(135,ztN)]
def zcq (zc:yA->Bool×Bool) (zg:yC->Bool×Bool) (zd:yE->Bool×Bool) (zh:Wd->Bool×Bool) (x_:At):Wy0 (Bool):=.i (x_.Kind==0) (.i (x_.Func != 0) (.k false) (.i (Int.ofNat x_.Items.length != 0) (.k false) (.i (x_.Op != 0) (.k false) (.i (!(x_.Bd.Kind==0&&(x_.Bd.Int==0&&(x_.Bd.Text.toList==(ByteArray.mk #[]).toList&&true)))) (.k false) (.bn (zc x_.Ag) λr1=>.i (r1) (.k false) (.bn (zr6 x_.Row) λr0=>.i (r0) (.k (Int.ofNat x_.Ag.length==0)) (.k false))))))) (.i (x_.Kind==1) (.i (x_.Func != 0) (.k false) (.i (Int.ofNat x_.Items.length != 0) (.k false) (.i (x_.Op != 0) (.k false) (.i (!(x_.Bd.Kind==0&&(x_.Bd.Int==0&&(x_.Bd.Text.toList==(ByteArray.mk #[]).toList&&true)))) (.k false) (.i (!(x_.Row.Table==0&&(x_.Row.Seq==0&&true))) (.k false) (.bn (zc x_.Ag) λr3=>.i (r3) (.k false) (.i (Int.ofNat x_.Ag.length==2) (.i (decide ((0:Int)<=(0:Int))&&decide (0<Int.ofNat x_.Ag.length)) (.i (decide ((0:Int)<=(1:Int))&&decide (1<Int.ofNat x_.Ag.length)) (.bn (zgY (x_.Ag.getD (Int.toNat 0) default) (x_.Ag.getD (Int.toNat 1) default)) λr2=>.k (!r2)) .d) .d) (.k false)))))))) (.i (x_.Kind==2) (.i (x_.Func != 0) (.k false) (.i (Int.ofNat x_.Items.length != 0) (.k false) (.i (x_.Op != 0) (.k false) (.i (!(x_.Bd.Kind==0&&(x_.Bd.Int==0&&(x_.Bd.Text.toList==(ByteArray.mk #[]).toList&&true)))) (.k false) (.i (!(x_.Row.Table==0&&(x_.Row.Seq==0&&true))) (.k false) (.bn (zc x_.Ag) λr6=>.i (r6) (.k false) (.i (Int.ofNat x_.Ag.length==1) (.i (decide ((0:Int)<=(0:Int))&&decide (0<Int.ofNat x_.Ag.length)) (.bn (zii (x_.Ag.getD (Int.toNat 0) default)) λr5=>.i (!r5) (.i (decide ((0:Int)<=(0:Int))&&decide (0<Int.ofNat x_.Ag.length)) (.bn (zmx (x_.Ag.getD (Int.toNat 0) default)) λr4=>.k (!r4)) .d) (.k false)) .d) (.k false)))))))) (.i (x_.Kind==3) (.i (x_.Func != 0) (.k false) (.i (Int.ofNat x_.Items.length != 0) (.k false) (.i (x_.Op != 0) (.k false) (.i (!(x_.Bd.Kind==0&&(x_.Bd.Int==0&&(x_.Bd.Text.toList==(ByteArray.mk #[]).toList&&true)))) (.k false) (.i (!(x_.Row.Table==0&&(x_.Row.Seq==0&&true))) (.k false) (.bn (zc x_.Ag) λr8=>.i (r8) (.k false) (.i (Int.ofNat x_.Ag.length==1) (.i (decide ((0:Int)<=(0:Int))&&decide (0<Int.ofNat x_.Ag.length)) (.bn (zfD (x_.Ag.getD (Int.toNat 0) default)) λr7=>.k (!r7)) .d) (.k false)))))))) (.i (x_.Kind==4) (.i (!(x_.Row.Table==0&&(x_.Row.Seq==0&&true))) (.k false) (.bn (zc x_.Ag) λr12=>.i (r12) (.k false) (.bn (zd x_.Items) λr11=>.i (Int.ofNat x_.Ag.length==0) (.i (decide (Int.ofNat x_.Items.length>0)) (.i (!r11) (.bn (zcC x_.Items) λr10=>.i (r10) (.bn (zld x_.Func x_.Items x_.Op x_.Bd) λr9=>.k r9) (.k false)) (.k false)) (.k false)) (.k false)))) (.i (x_.Func != 0) (.k false) (.i (Int.ofNat x_.Items.length != 0) (.k false) (.i (x_.Op != 0) (.k false) (.i (!(x_.Bd.Kind==0&&(x_.Bd.Int==0&&(x_.Bd.Text.toList==(ByteArray.mk #[]).toList&&true)))) (.k false) (.i (!(x_.Row.Table==0&&(x_.Row.Seq==0&&true))) (.k false) (.bn (zc x_.Ag) λr14=>.i (r14) (.k false) (.k false)))))))))))
def zkF (zc:yA->Bool×Bool) (zg:yC->Bool×Bool) (zd:yE->Bool×Bool) (zh:Wd->Bool×Bool) (x_:At):=(zcq zc zg zd zh x_).fin default
theorem zKK (zc:yA->Bool×Bool) (zg:yC->Bool×Bool) (zd:yE->Bool×Bool) (zh:Wd->Bool×Bool) (v_Row:RowID) (v_Args:yA) (v_Func:Int) (v_Items:yE) (v_Op:Int) (v_Bound:Value)  :zgU (zda zc zg zd zh) f66 (body f66) ⟨[.pure],[]⟩ [.pure (.agg (base.enc 67 (At.mk (Int.ofNat 0) v_Row v_Args v_Func v_Items v_Op v_Bound)))]=(zcq zc zg zd zh (At.mk (Int.ofNat 0) v_Row v_Args v_Func v_Items v_Op v_Bound)).ev noH (λr=>some (zYq r)) none:=by kernel_rfl
theorem zKu (zc:yA->Bool×Bool) (zg:yC->Bool×Bool) (zd:yE->Bool×Bool) (zh:Wd->Bool×Bool) (v_Row:RowID) (v_Args:yA) (v_Func:Int) (v_Items:yE) (v_Op:Int) (v_Bound:Value)  :zgU (zda zc zg zd zh) f66 (body f66) ⟨[.pure],[]⟩ [.pure (.agg (base.enc 67 (At.mk (Int.ofNat 1) v_Row v_Args v_Func v_Items v_Op v_Bound)))]=(zcq zc zg zd zh (At.mk (Int.ofNat 1) v_Row v_Args v_Func v_Items v_Op v_Bound)).ev noH (λr=>some (zYq r)) none:=by kernel_rfl
theorem zJ3 (zc:yA->Bool×Bool) (zg:yC->Bool×Bool) (zd:yE->Bool×Bool) (zh:Wd->Bool×Bool) (v_Row:RowID) (v_Args:yA) (v_Func:Int) (v_Items:yE) (v_Op:Int) (v_Bound:Value)  :zgU (zda zc zg zd zh) f66 (body f66) ⟨[.pure],[]⟩ [.pure (.agg (base.enc 67 (At.mk (Int.ofNat 2) v_Row v_Args v_Func v_Items v_Op v_Bound)))]=(zcq zc zg zd zh (At.mk (Int.ofNat 2) v_Row v_Args v_Func v_Items v_Op v_Bound)).ev noH (λr=>some (zYq r)) none:=by kernel_rfl
theorem zKO (zc:yA->Bool×Bool) (zg:yC->Bool×Bool) (zd:yE->Bool×Bool) (zh:Wd->Bool×Bool) (v_Row:RowID) (v_Args:yA) (v_Func:Int) (v_Items:yE) (v_Op:Int) (v_Bound:Value)  :zgU (zda zc zg zd zh) f66 (body f66) ⟨[.pure],[]⟩ [.pure (.agg (base.enc 67 (At.mk (Int.ofNat 3) v_Row v_Args v_Func v_Items v_Op v_Bound)))]=(zcq zc zg zd zh (At.mk (Int.ofNat 3) v_Row v_Args v_Func v_Items v_Op v_Bound)).ev noH (λr=>some (zYq r)) none:=by kernel_rfl
theorem zKn (zc:yA->Bool×Bool) (zg:yC->Bool×Bool) (zd:yE->Bool×Bool) (zh:Wd->Bool×Bool) (v_Row:RowID) (v_Args:yA) (v_Func:Int) (v_Items:yE) (v_Op:Int) (v_Bound:Value)  :zgU (zda zc zg zd zh) f66 (body f66) ⟨[.pure],[]⟩ [.pure (.agg (base.enc 67 (At.mk (Int.ofNat 4) v_Row v_Args v_Func v_Items v_Op v_Bound)))]=(zcq zc zg zd zh (At.mk (Int.ofNat 4) v_Row v_Args v_Func v_Items v_Op v_Bound)).ev noH (λr=>some (zYq r)) none:=by kernel_rfl
theorem zLl (zc:yA->Bool×Bool) (zg:yC->Bool×Bool) (zd:yE->Bool×Bool) (zh:Wd->Bool×Bool) (n:Nat) (v_Row:RowID) (v_Args:yA) (v_Func:Int) (v_Items:yE) (v_Op:Int) (v_Bound:Value)  :zgU (zda zc zg zd zh) f66 (body f66) ⟨[.pure],[]⟩ [.pure (.agg (base.enc 67 (At.mk (Int.ofNat (n+5)) v_Row v_Args v_Func v_Items v_Op v_Bound)))]=(zcq zc zg zd zh (At.mk (Int.ofNat (n+5)) v_Row v_Args v_Func v_Items v_Op v_Bound)).ev noH (λr=>some (zYq r)) none:=by kernel_rfl
theorem zKb (zc:yA->Bool×Bool) (zg:yC->Bool×Bool) (zd:yE->Bool×Bool) (zh:Wd->Bool×Bool) (n:Nat) (v_Row:RowID) (v_Args:yA) (v_Func:Int) (v_Items:yE) (v_Op:Int) (v_Bound:Value)  :zgU (zda zc zg zd zh) f66 (body f66) ⟨[.pure],[]⟩ [.pure (.agg (base.enc 67 (At.mk (Int.negSucc n) v_Row v_Args v_Func v_Items v_Op v_Bound)))]=(zcq zc zg zd zh (At.mk (Int.negSucc n) v_Row v_Args v_Func v_Items v_Op v_Bound)).ev noH (λr=>some (zYq r)) none:=by kernel_rfl
theorem zLx (zc:yA->Bool×Bool) (zg:yC->Bool×Bool) (zd:yE->Bool×Bool) (zh:Wd->Bool×Bool) (x_:At):zgU (zda zc zg zd zh) f66 (body f66) ⟨[.pure],[]⟩ [.pure (.agg (base.enc 67 x_))]=(zcq zc zg zd zh x_).ev noH (λr=>some (zYq r)) none:=by
 obtain ⟨v_Kind,v_Row,v_Args,v_Func,v_Items,v_Op,v_Bound⟩:=x_
 match v_Kind with
 | .ofNat 0=>exact zKK zc zg zd zh v_Row v_Args v_Func v_Items v_Op v_Bound 
 | .ofNat 1=>exact zKu zc zg zd zh v_Row v_Args v_Func v_Items v_Op v_Bound 
 | .ofNat 2=>exact zJ3 zc zg zd zh v_Row v_Args v_Func v_Items v_Op v_Bound 
 | .ofNat 3=>exact zKO zc zg zd zh v_Row v_Args v_Func v_Items v_Op v_Bound 
 | .ofNat 4=>exact zKn zc zg zd zh v_Row v_Args v_Func v_Items v_Op v_Bound 
 | .ofNat (n+5)=>exact zLl zc zg zd zh n v_Row v_Args v_Func v_Items v_Op v_Bound 
 | .negSucc n=>exact zKb zc zg zd zh n v_Row v_Args v_Func v_Items v_Op v_Bound 
theorem zJG (zc:yA->Bool×Bool) (zg:yC->Bool×Bool) (zd:yE->Bool×Bool) (zh:Wd->Bool×Bool) (znu:SdP 126 (zcE zc)) (zgK:SdP 127 (ziP zg)) (zoY:SdP 132 (zc2 zd)) (zgG:SdP 133 (zdT zh)):SdP 66 (znX (zkF zc zg zd zh)):=
 z1F (cx':=(zda zc zg zd zh)) zGC zkn zbcH (zk ⟨zn7,zco,znu,zgK,zCf,zym,zDU,zwS,zoY,zgG,zpG,zCQ,trivial⟩) call66 func66 (c:=body f66) (by kernel_rfl) (zDD (l:=[]) (by kernel_rfl) trivial) (sg:=⟨[.pure],[]⟩) (A:=zEP) (res:=zYq) (W:=λx=>zcq zc zg zd zh x.1) (z:=default) (λx=>zLx zc zg zd zh x.1) (λ_=>by kernel_rfl)
def zJI (zbR:yC->Bool×Bool):=zbr base 11 [(20,(ziP zbR))]
def zyx (zbR:yC->Bool×Bool) (a:yC):Wy0 (Bool):=.bn (zbR a) λr0=>.i (!r0) (.k true) (.k (Int.ofNat a.length==0))
def zlx (zbR:yC->Bool×Bool) (a:yC):=(zyx zbR a).fin default
theorem zGq (zbR:yC->Bool×Bool) (zy5:SdP 20 (ziP zbR)):SdP 127 (ziP (zlx zbR)):=
 sT (cx':=(zJI zbR)) (zk ⟨zy5,trivial⟩) call127 func127 (lOK aN)
def zJu (zbR:yC->Bool×Bool):=zbr base 13 [(20,(ziP zbR))]
def zyz (zbR:yC->Bool×Bool) (w:Wd):Wy0 (Bool):=.bn (zbR w.Ann) λr0=>.i (!r0) (.k true) (.k (Int.ofNat w.Ann.length==0))
def zlr (zbR:yC->Bool×Bool) (w:Wd):=(zyz zbR w).fin default
theorem zGu (zbR:yC->Bool×Bool) (zy5:SdP 20 (ziP zbR)):SdP 133 (zdT (zlr zbR)):=
 sT (cx':=(zJu zbR)) (zk ⟨zy5,trivial⟩) call133 func133 (lOK aN)
def zmW (zg:yC->Bool×Bool) (zba:yA->Bool×Int):=zbr base 9 [(127,(ziP zg)),(161,(zcQ zba))]
def zfZ (zg:yC->Bool×Bool) (zba:yA->Bool×Int) (s:yA):Wy0 (Bool):=.bn (zba s) λr0=>.k (decide (r0≥0))
def zcG (zg:yC->Bool×Bool) (zba:yA->Bool×Int) (s:yA):=(zfZ zg zba s).fin default
theorem zlN (zg:yC->Bool×Bool) (zba:yA->Bool×Int) (zgK:SdP 127 (ziP zg)) (zoM:SdP 161 (zcQ zba)):SdP 126 (zcE (zcG zg zba)):=
 sT (cx':=(zmW zg zba)) (zk ⟨zgK,zoM,trivial⟩) call126 func126 (lOK aN)
def zoJ (zh:Wd->Bool×Bool) (zbg:yE->Bool×Int):=zbr base 9 [(133,(zdT zh)),(163,(zdq zbg))]
def zha (zh:Wd->Bool×Bool) (zbg:yE->Bool×Int) (s:yE):Wy0 (Bool):=.bn (zbg s) λr0=>.k (decide (r0≥0))
def zcZ (zh:Wd->Bool×Bool) (zbg:yE->Bool×Int) (s:yE):=(zha zh zbg s).fin default
theorem zng (zh:Wd->Bool×Bool) (zbg:yE->Bool×Int) (zgG:SdP 133 (zdT zh)) (zqt:SdP 163 (zdq zbg)):SdP 132 (zc2 (zcZ zh zbg)):=
 sT (cx':=(zoJ zh zbg)) (zk ⟨zgG,zqt,trivial⟩) call132 func132 (lOK aN)
abbrev zdj:=yA×Unit×Int×Int×Unit
def zn0 (zg:yC->Bool×Bool) (s:yA) (t7:Int) (t8:Int):Wy zdj Unit (Int⊕Unit):=.i (decide (t8<t7)) (.i (decide (0<=t8)&&decide (t8<Int.ofNat s.length)) (.bn (zg (s.getD t8.toNat default)) λr0=>.i (r0) (.k (.inl t8)) (.h (s,(),t7,(IntKind.i64.wrap (t8+1)),()) ())) .d) (.k (.inr ()))
def zgt (zg:yC->Bool×Bool) (x:zdj) (y:Unit):=zn0 zg x.1 x.2.2.1 x.2.2.2.1
def zoe (zg:yC->Bool×Bool) (n:Nat) (s:yA) (t7:Int) (t8:Int):=zC (zgt zg) (.inl default) n (s,(),t7,t8,()) ()
def zn5:LL ty zdj:=za (lSl 23) (za (lFn 127 (zl)) (za zj (za zj zl)))
def znO (x:zdj) (y:Unit):Nat:=(x.1.length+Int.toNat x.2.2.1+Int.toNat x.2.2.2.1+1)
def zgs (zg:yC->Bool×Bool):=zbV base 19 [(127,(ziP zg))] [] [(2,(kpL [0,1,7,8]))] [(2,1,[]),(2,0,(kpL [4]))] [(2,spW zn5 zba6 (zgt zg) (.inl default) ztL znO)] []
theorem znI (zg:yC->Bool×Bool):zF (zgs zg) (lp (body f161) 0):=zq (id:=2) (hl:=rfl)
def zoA (zg:yC->Bool×Bool) (s:yA):Wy0 (Int):=.bn (zoe zg (s.length+(Int.ofNat s.length).toNat +Int.toNat 0+1) s (Int.ofNat s.length) 0) λr2=>.i (isL r2) (.k (getL r2)) (.k (-1:Int))
def zcS (zg:yC->Bool×Bool) (s:yA):=(zoA zg s).fin default
theorem zmP (zg:yC->Bool×Bool) (zgK:SdP 127 (ziP zg)):SdP 161 (zcQ (zcS zg)):=
 sT (cx':=(zgs zg)) (zk ⟨zgK,trivial⟩) call161 func161 (lOK (aC (znI zg) aN))
abbrev zd1:=yE×Unit×Int×Int×Unit
def zp6 (zh:Wd->Bool×Bool) (s:yE) (t7:Int) (t8:Int):Wy zd1 Unit (Int⊕Unit):=.i (decide (t8<t7)) (.i (decide (0<=t8)&&decide (t8<Int.ofNat s.length)) (.bn (zh (s.getD t8.toNat default)) λr0=>.i (r0) (.k (.inl t8)) (.h (s,(),t7,(IntKind.i64.wrap (t8+1)),()) ())) .d) (.k (.inr ()))
def zhz (zh:Wd->Bool×Bool) (x:zd1) (y:Unit):=zp6 zh x.1 x.2.2.1 x.2.2.2.1
def zpP (zh:Wd->Bool×Bool) (n:Nat) (s:yE) (t7:Int) (t8:Int):=zC (zhz zh) (.inl default) n (s,(),t7,t8,()) ()
def zpR:LL ty zd1:=za (lSl 100) (za (lFn 133 (zl)) (za zj (za zj zl)))
def zpB (x:zd1) (y:Unit):Nat:=(x.1.length+Int.toNat x.2.2.1+Int.toNat x.2.2.2.1+1)
def zhG (zh:Wd->Bool×Bool):=zbV base 19 [(133,(zdT zh))] [] [(2,(kpL [0,1,7,8]))] [(2,1,[]),(2,0,(kpL [4]))] [(2,spW zpR zba6 (zhz zh) (.inl default) ztL zpB)] []
theorem zpJ (zh:Wd->Bool×Bool):zF (zhG zh) (lp (body f163) 0):=zq (id:=2) (hl:=rfl)
def zqB (zh:Wd->Bool×Bool) (s:yE):Wy0 (Int):=.bn (zpP zh (s.length+(Int.ofNat s.length).toNat +Int.toNat 0+1) s (Int.ofNat s.length) 0) λr2=>.i (isL r2) (.k (getL r2)) (.k (-1:Int))
def zdn (zh:Wd->Bool×Bool) (s:yE):=(zqB zh s).fin default
theorem zom (zh:Wd->Bool×Bool) (zgG:SdP 133 (zdT zh)):SdP 163 (zdq (zdn zh)):=
 sT (cx':=(zhG zh)) (zk ⟨zgG,trivial⟩) call163 func163 (lOK (aC (zpJ zh) aN))
def zeR:Nat->(yC->Bool×Bool)×(At->Bool×Bool)×(yC->Bool×Bool)×(Wd->Bool×Bool)×(yA->Bool×Int)×(yA->Bool×Bool)×(yE->Bool×Int)×(yE->Bool×Bool)
 | 0=>(λ_=>(false,default),λ_=>(false,default),λ_=>(false,default),λ_=>(false,default),λ_=>(false,default),λ_=>(false,default),λ_=>(false,default),λ_=>(false,default))
 | n+1=>(zox ((zeR n).2.1),zkF ((zeR n).2.2.2.2.2.1) ((zeR n).2.2.1) ((zeR n).2.2.2.2.2.2.2) ((zeR n).2.2.2.1),zlx ((zeR n).1),zlr ((zeR n).1),zcS ((zeR n).2.2.1),zcG ((zeR n).2.2.1) ((zeR n).2.2.2.2.1),zdn ((zeR n).2.2.2.1),zcZ ((zeR n).2.2.2.1) ((zeR n).2.2.2.2.2.2.1))
def zk7 (n:Nat):yC->Bool×Bool:=(zeR n).1
def zn9 (n:Nat):At->Bool×Bool:=(zeR n).2.1
def zfI (n:Nat):yC->Bool×Bool:=(zeR n).2.2.1
def zfH (n:Nat):Wd->Bool×Bool:=(zeR n).2.2.2.1
def zcT (n:Nat):yA->Bool×Int:=(zeR n).2.2.2.2.1
def zcH (n:Nat):yA->Bool×Bool:=(zeR n).2.2.2.2.2.1
def zdl (n:Nat):yE->Bool×Int:=(zeR n).2.2.2.2.2.2.1
def zc1 (n:Nat):yE->Bool×Bool:=(zeR n).2.2.2.2.2.2.2
theorem zUu (n:Nat):zk7 (n+1)=zox (zn9 n):=rfl
theorem zND (n:Nat):zn9 (n+1)=zkF (zcH n) (zfI n) (zc1 n) (zfH n):=rfl
theorem zIW (n:Nat):zfI (n+1)=zlx (zk7 n):=rfl
theorem zJo (n:Nat):zfH (n+1)=zlr (zk7 n):=rfl
theorem znV (n:Nat):zcT (n+1)=zcS (zfI n):=rfl
theorem zmQ (n:Nat):zcH (n+1)=zcG (zfI n) (zcT n):=rfl
theorem zp8 (n:Nat):zdl (n+1)=zdn (zfH n):=rfl
theorem zor (n:Nat):zc1 (n+1)=zcZ (zfH n) (zdl n):=rfl
theorem z3U:∀ n,SdP 20 (ziP (zk7 n))/\SdP 66 (znX (zn9 n))/\SdP 127 (ziP (zfI n))/\SdP 133 (zdT (zfH n))/\SdP 161 (zcQ (zcT n))/\SdP 126 (zcE (zcH n))/\SdP 163 (zdq (zdl n))/\SdP 132 (zc2 (zc1 n))
 | 0=>⟨zbb call20 (λ_=>rfl),zbb call66 (λ_=>rfl),zbb call127 (λ_=>rfl),zbb call133 (λ_=>rfl),zbb call161 (λ_=>rfl),zbb call126 (λ_=>rfl),zbb call163 (λ_=>rfl),zbb call132 (λ_=>rfl)⟩
 | n+1=>by
  have ih:=z3U n;exact ⟨zOC _ (ih.2.1),zJG _ _ _ _ (ih.2.2.2.2.2.1) (ih.2.2.1) (ih.2.2.2.2.2.2.2) (ih.2.2.2.1),zGq _ (ih.1),zGu _ (ih.1),zmP _ (ih.2.2.1),zlN _ _ (ih.2.2.1) (ih.2.2.2.2.1),zom _ (ih.2.2.2.1),zng _ _ (ih.2.2.2.1) (ih.2.2.2.2.2.2.1)⟩
def zca:yC->Bool×Bool:=zk7 1000
def zcn:Ab.Spec ty:=ziP zca
theorem zct:SdP 20 zcn:=(z3U 1000).1
def zSr (r:yC×Int):ARes ty:=⟨[.own 28 r.1,.pure (.lit (.int .i64 r.2))],[]⟩
def zU2:AL zb1 (yC×((yG×Unit)×Unit)×Unit):=ze (zf (vSl 28)) (ze (zf (vFn 84 (zdS (zvL (zdS (vSl 51) zb5)) zb5))) zu)
def zl9 (F:yC->yG->Bool×(yC×Int)):Ab.Spec ty:=zi zU2 λx=>((F x.1 x.2.1.1.1).1,zSr (F x.1 x.2.1.1.1).2)
def zO1:AL zb1 (At×((yG×Unit)×Unit)×Unit):=ze (zf (zcK 67)) (ze (zf (vFn 84 (zdS (zvL (zdS (vSl 51) zb5)) zb5))) zu)
def zlP (F:At->yG->Bool×(yC×Int)):Ab.Spec ty:=zi zO1 λx=>((F x.1 x.2.1.1.1).1,zSr (F x.1 x.2.1.1.1).2)
def zG9 (k:Go.Value) (l:List (Go.Value×Int)):Option Int:=zVZ (ty:=ty) (V:=3) k l
def zbeM (k:Go.Value) (l:List (Go.Value×Int)):Bool:=zL9 (ty:=ty) (V:=3) k l
def zbeL (k:Go.Value) (x:Int) (l:List (Go.Value×Int)):List (Go.Value×Int):=zJF (ty:=ty) (V:=3) k x l
def zXU (r:ByteArray):ARes ty:=⟨[.pure (.lit (.string r))],[]⟩
def z28:AL zb1 (yC×Unit):=ze (zf (vSl 28)) zu
def zwA (F:yC->Bool×ByteArray):Ab.Spec ty:=zi z28 λx=>((F x.1).1,zXU (F x.1).2)
def zQm:AL zb1 (At×Unit):=ze (zf (zcK 67)) zu
def zm9 (F:At->Bool×ByteArray):Ab.Spec ty:=zi zQm λx=>((F x.1).1,zXU (F x.1).2)
def zMb:AL zb1 (yD×Unit):=ze (zf (vSl 69)) zu
def zhc (F:yD->Bool×ByteArray):Ab.Spec ty:=zi zMb λx=>((F x.1).1,zXU (F x.1).2)
def zQf:=zbr base 2 []
def zR5:Wy0 (List ByteArray):=.k [ByteArray.mk #[(67:UInt8),(79:UInt8),(85:UInt8),(78:UInt8),(84:UInt8)],ByteArray.mk #[(83:UInt8),(85:UInt8),(77:UInt8)],ByteArray.mk #[(77:UInt8),(73:UInt8),(78:UInt8)],ByteArray.mk #[(77:UInt8),(65:UInt8),(88:UInt8)]]
def zci:Bool×List ByteArray:=(zR5).fin default
def zO8 (r:List ByteArray):ARes ty:=⟨[.own 9 r],[]⟩
def zSC:AL base (Unit):=zu
def zBa:=zi zSC λx=>((zci ).1,zO8 (zci ).2)
theorem zLE:SdP 198 zBa:=
 sT (cx':=zQf) (zk trivial) call198 func198 (lOK aN) (sg:=⟨[.own 9],[]⟩)
def zQH:=zbr base 2 []
def zSn:Wy0 (List ByteArray):=.k [ByteArray.mk #[(61:UInt8)],ByteArray.mk #[(60:UInt8),(62:UInt8)],ByteArray.mk #[(60:UInt8)],ByteArray.mk #[(60:UInt8),(61:UInt8)],ByteArray.mk #[(62:UInt8)],ByteArray.mk #[(62:UInt8),(61:UInt8)]]
def zd5:Bool×List ByteArray:=(zSn).fin default
def zA5:=zi zSC λx=>((zd5 ).1,zO8 (zd5 ).2)
theorem zLr:SdP 199 zA5:=
 sT (cx':=zQH) (zk trivial) call199 func199 (lOK aN) (sg:=⟨[.own 9],[]⟩)
def strings_Join (l:List ByteArray) (sep:ByteArray):Bool×ByteArray:=z1w l sep
def zwo:Ab.Spec ty:=zi (cx:=zb1) (ze (zf (vSl 9)) (ze (zf zAU) zu)) λx=>((strings_Join x.1 x.2.1).1,⟨[.pure (.lit (.string (strings_Join x.1 x.2.1).2))],[]⟩)
theorem zCz:Sound Tryz.prog zb1 169 zwo:=zbfT (T:=9) zO5 rfl Go.Proofs.Tryz.lays156 Go.Proofs.Tryz.Builder_Extra_156 call169 (λs:ByteArray=>s) (λ_=>rfl) strings_Join (λl sep=>congrArg (λl=>z1w l sep) (List.map_id' (α:=ByteArray) l).symm)
def strconv_Itoa (x:Int):Bool×ByteArray:=zWv x
def zD5:Ab.Spec ty:=zi (cx:=base) (ze (zf (znK .i64)) zu) λx=>((strconv_Itoa x.1).1,⟨[.pure (.lit (.string (strconv_Itoa x.1).2))],[]⟩)
theorem zKC:SdP 168 zD5:=zbfb zkn Go.Proofs.Tryz.laysM171 call168 (λ_ h=>h.1)
def z5j:=zbr base 15 [(128,zwt),(168,zD5)]
def zRB (id:RowID):Wy0 (ByteArray):=.bn (zr6 id) λr2=>.i (!r2) (.k (ByteArray.mk #[])) (.bn (strconv_Itoa id.Table) λr1=>.i (decide ((ByteArray.mk #[(116:UInt8)]).size+r1.size<=9223372036854775807)) (.i (decide ((ByteArray.mk #[(116:UInt8)]++r1).size+(ByteArray.mk #[(46:UInt8)]).size<=9223372036854775807)) (.bn (strconv_Itoa id.Seq) λr0=>.i (decide ((ByteArray.mk #[(116:UInt8)]++r1++ByteArray.mk #[(46:UInt8)]).size+r0.size<=9223372036854775807)) (.k (ByteArray.mk #[(116:UInt8)]++r1++ByteArray.mk #[(46:UInt8)]++r0)) .d) .d) .d)
def zzF (id:RowID):=(zRB id).fin default
def zKG:=zi z9c λx=>((zzF x.1).1,zXU (zzF x.1).2)
theorem zYi:SdP 195 zKG:=
 sT (cx':=z5j) (zk ⟨zCf,zKC,trivial⟩) call195 func195 (lOK aN)
def zjW (m b:Int):Bool×ByteArray:=zzh m b
def zvw:Ab.Spec ty:=zi (cx:=base) (ze (zf (znK .i64)) (ze (zf (znK .i64)) zu)) λx=>((zjW x.1 x.2.1).1,⟨[.pure (.lit (.string (zjW x.1 x.2.1).2))],[]⟩)
theorem zDM:SdP 227 zvw:=z6d zkn Go.Proofs.Tryz.laysM173 call227 (λ_ h=>h.1)
end Go.Proofs.YtljlfiomikifjaaGreatDoor
end
