/- Texts of this claim, joined (the program, its functions in plain words, and what they compute). -/
import Derived.Test.YtljlfiomikifjaaGreatDoorGC1
set_option autoImplicit false
set_option linter.unusedVariables false
set_option linter.unusedSectionVars false
set_option linter.unusedSimpArgs false
set_option maxRecDepth 1000000
set_option maxHeartbeats 0
noncomputable section
namespace Go.Proofs.YtljlfiomikifjaaGreatDoor
open Go Go.Ab
open Go.Proofs.Tryz
abbrev ztT:=Int×Unit×yC×Int×Int×yD×Int×Int×yA×Int×Int×Unit
abbrev zKv:=Int×yC×Int×Int×yD×Int×Int×Fc
abbrev zuU:=Int×yC×Int×Int×yD×Int×Int×yE×Int×Int×Unit
abbrev zLg:=Int×yC×Int×Int×yD×Int×Int
abbrev zup:=Int×yC×Int×Int×yD×Int×Int×Unit
abbrev zKk:=Int×yC×Int×Int
abbrev zuB:=Int×yC×Int×Int×Unit
def zkD (zw:yC->Bool×Int) (n_:Int) (t12:yC) (t13:Int) (t14:Int) (t25:yD) (t26:Int) (t27:Int) (t33:yA) (t34:Int) (t35:Int) (f:Fc):Wy ztT (Fc×Unit) zKv:=.i (decide (t35<t34)) (.i (decide (0<=t35)&&decide (t35<Int.ofNat t33.length)) (.bn (zw (t33.getD t35.toNat default)) λr0=>.h ((IntKind.i64.wrap (n_+r0)),(),t12,t13,t14,t25,t26,t27,t33,t34,(IntKind.i64.wrap (t35+1)),()) (f,())) .d) (.k (n_,t12,t13,t14,t25,t26,t27,f))
def zxj (zw:yC->Bool×Int) (x:ztT) (y:Fc×Unit):=zkD zw x.1 x.2.2.1 x.2.2.2.1 x.2.2.2.2.1 x.2.2.2.2.2.1 x.2.2.2.2.2.2.1 x.2.2.2.2.2.2.2.1 x.2.2.2.2.2.2.2.2.1 x.2.2.2.2.2.2.2.2.2.1 x.2.2.2.2.2.2.2.2.2.2.1 y.1
def zFv (zw:yC->Bool×Int) (n:Nat) (n_:Int) (t12:yC) (t13:Int) (t14:Int) (t25:yD) (t26:Int) (t27:Int) (t33:yA) (t34:Int) (t35:Int) (f:Fc):=zy (zxj zw) default n (n_,(),t12,t13,t14,t25,t26,t27,t33,t34,t35,()) (f,())
def zSD (r:zKv):LTree ty:=.done (.exit 4) [.lit (.int .i64 r.1),.ptr 248 0,.sl 28 r.2.1,.lit (.int .i64 r.2.2.1),.lit (.int .i64 r.2.2.2.1),.sl 69 r.2.2.2.2.1,.lit (.int .i64 r.2.2.2.2.2.1),.lit (.int .i64 r.2.2.2.2.2.2.1)] [.box (base.enc 69 r.2.2.2.2.2.2.2) false]
def zVw:LL ty ztT:=za zj (za (zdR 248 0) (za (lSl 28) (za zj (za zj (za (lSl 69) (za zj (za zj (za (lSl 23) (za zj (za zj zk))))))))))
def zUd:BL ty (Fc×Unit):=zff (zeK (λx=>(⟨⟨x.1,⟨x.2.1,x.2.2.1⟩,x.2.2.2.1,x.2.2.2.2.1,x.2.2.2.2.2.1,x.2.2.2.2.2.2.1,⟨x.2.2.2.2.2.2.2.1,x.2.2.2.2.2.2.2.2.1,x.2.2.2.2.2.2.2.2.2.1⟩⟩,x.2.2.2.2.2.2.2.2.2.2.1⟩:Fc)) (λx=>(x.At.Kind,x.At.Row.Table,x.At.Row.Seq,x.At.Ag,x.At.Func,x.At.Items,x.At.Op,x.At.Bd.Kind,x.At.Bd.Int,x.At.Bd.Text,x.Exp,())) (λ_=>rfl) (za (zI .i64) (za (zI .i64) (za (zI .i64) (za (lSl 23) (za (zI .i64) (za (lSl 100) (za (zI .i64) (za (zI .i64) (za (zI .i64) (za znV (za (zI .i64) zk)))))))))))) false (z6)
def zkR (zw:yC->Bool×Int) (n_:Int) (t12:yC) (t13:Int) (t14:Int) (t25:yD) (t26:Int) (t27:Int) (t46:yE) (t47:Int) (t48:Int):Wy zuU Unit zLg:=.i (decide (t48<t47)) (.i (decide (0<=t48)&&decide (t48<Int.ofNat t46.length)) (.bn (zw (t46.getD t48.toNat default).Ann) λr2=>.h ((IntKind.i64.wrap (n_+IntKind.i64.wrap (1+r2))),t12,t13,t14,t25,t26,t27,t46,t47,(IntKind.i64.wrap (t48+1)),()) ()) .d) (.k (n_,t12,t13,t14,t25,t26,t27))
def zw6 (zw:yC->Bool×Int) (x:zuU) (y:Unit):=zkR zw x.1 x.2.1 x.2.2.1 x.2.2.2.1 x.2.2.2.2.1 x.2.2.2.2.2.1 x.2.2.2.2.2.2.1 x.2.2.2.2.2.2.2.1 x.2.2.2.2.2.2.2.2.1 x.2.2.2.2.2.2.2.2.2.1
def zFG (zw:yC->Bool×Int) (n:Nat) (n_:Int) (t12:yC) (t13:Int) (t14:Int) (t25:yD) (t26:Int) (t27:Int) (t46:yE) (t47:Int) (t48:Int):=zy (zw6 zw) default n (n_,t12,t13,t14,t25,t26,t27,t46,t47,t48,()) ()
def zSq (r:zLg):LTree ty:=.done (.exit 6) [.lit (.int .i64 r.1),.sl 28 r.2.1,.lit (.int .i64 r.2.2.1),.lit (.int .i64 r.2.2.2.1),.sl 69 r.2.2.2.2.1,.lit (.int .i64 r.2.2.2.2.2.1),.lit (.int .i64 r.2.2.2.2.2.2)] []
def zT1:LL ty zuU:=za zj (za (lSl 28) (za zj (za zj (za (lSl 69) (za zj (za zj (za (lSl 100) (za zj (za zj zk)))))))))
def zlu (zw:yC->Bool×Int) (n_:Int) (t12:yC) (t13:Int) (t14:Int) (t25:yD) (t26:Int) (t27:Int):Wy zup Unit zKk:=.i (decide (t27<t26)) (.i (decide (0<=t27)&&decide (t27<Int.ofNat t25.length)) (.bn (zFv zw (n_.toNat +t12.length+t13.toNat +t14.toNat +t25.length+t26.toNat +t27.toNat +(t25.getD t27.toNat default).At.Ag.length+(Int.ofNat (t25.getD t27.toNat default).At.Ag.length).toNat +Int.toNat 0+(t25.getD t27.toNat default).At.Ag.length+(t25.getD t27.toNat default).At.Items.length+1) n_ t12 t13 t14 t25 t26 t27 (t25.getD t27.toNat default).At.Ag (Int.ofNat (t25.getD t27.toNat default).At.Ag.length) 0 (FO.mk (At.mk (t25.getD t27.toNat default).At.Kind (t25.getD t27.toNat default).At.Row (t25.getD t27.toNat default).At.Ag (t25.getD t27.toNat default).At.Func (t25.getD t27.toNat default).At.Items (t25.getD t27.toNat default).At.Op (t25.getD t27.toNat default).At.Bd) (t25.getD t27.toNat default).Exp)) λr5=>.bn (zFG zw (r5.1.toNat +r5.2.1.length+r5.2.2.1.toNat +r5.2.2.2.1.toNat +r5.2.2.2.2.1.length+r5.2.2.2.2.2.1.toNat +r5.2.2.2.2.2.2.1.toNat +r5.2.2.2.2.2.2.2.At.Items.length+(Int.ofNat r5.2.2.2.2.2.2.2.At.Items.length).toNat +Int.toNat 0+1) r5.1 r5.2.1 r5.2.2.1 r5.2.2.2.1 r5.2.2.2.2.1 r5.2.2.2.2.2.1 r5.2.2.2.2.2.2.1 r5.2.2.2.2.2.2.2.At.Items (Int.ofNat r5.2.2.2.2.2.2.2.At.Items.length) 0) λr4=>.h ((r4.1),(r4.2.1),(r4.2.2.1),(r4.2.2.2.1),(r4.2.2.2.2.1),(r4.2.2.2.2.2.1),(IntKind.i64.wrap (r4.2.2.2.2.2.2+1)),()) ()) .d) (.k (n_,t12,t13,t14))
def zyV (zw:yC->Bool×Int) (x:zup) (y:Unit):=zlu zw x.1 x.2.1 x.2.2.1 x.2.2.2.1 x.2.2.2.2.1 x.2.2.2.2.2.1 x.2.2.2.2.2.2.1
def zHv (zw:yC->Bool×Int) (n:Nat) (n_:Int) (t12:yC) (t13:Int) (t14:Int) (t25:yD) (t26:Int) (t27:Int):=zy (zyV zw) default n (n_,t12,t13,t14,t25,t26,t27,()) ()
def zT3 (r:zKk):LTree ty:=.done (.exit 2) [.lit (.int .i64 r.1),.sl 28 r.2.1,.lit (.int .i64 r.2.2.1),.lit (.int .i64 r.2.2.2)] []
def zV5:LL ty zup:=za zj (za (lSl 28) (za zj (za zj (za (lSl 69) (za zj (za zj zk))))))
def zly (zw:yC->Bool×Int) (n_:Int) (t12:yC) (t13:Int) (t14:Int):Wy zuB Unit (Int):=.i (decide (t14<t13)) (.i (decide (0<=t14)&&decide (t14<Int.ofNat t12.length)) (.bn (zHv zw ((IntKind.i64.wrap (n_+IntKind.i64.wrap (1+Int.ofNat (t12.getD t14.toNat default).Fs.length))).toNat +t12.length+t13.toNat +t14.toNat +(t12.getD t14.toNat default).Fs.length+(Int.ofNat (t12.getD t14.toNat default).Fs.length).toNat +Int.toNat 0+1) (IntKind.i64.wrap (n_+IntKind.i64.wrap (1+Int.ofNat (t12.getD t14.toNat default).Fs.length))) t12 t13 t14 (t12.getD t14.toNat default).Fs (Int.ofNat (t12.getD t14.toNat default).Fs.length) 0) λr8=>.h ((r8.1),(r8.2.1),(r8.2.2.1),(IntKind.i64.wrap (r8.2.2.2+1)),()) ()) .d) (.k n_)
def zyS (zw:yC->Bool×Int) (x:zuB) (y:Unit):=zly zw x.1 x.2.1 x.2.2.1 x.2.2.2.1
def zHl (zw:yC->Bool×Int) (n:Nat) (n_:Int) (t12:yC) (t13:Int) (t14:Int):=zy (zyS zw) default n (n_,t12,t13,t14,()) ()
def zUy (r:Int):LTree ty:=.done (.exit 0) [.lit (.int .i64 r)] []
def zVV:LL ty zuB:=za zj (za (lSl 28) (za zj (za zj zk)))
def zST (x:ztT) (y:Fc×Unit):Nat:=(Int.toNat x.1+x.2.2.1.length+Int.toNat x.2.2.2.1+Int.toNat x.2.2.2.2.1+x.2.2.2.2.2.1.length+Int.toNat x.2.2.2.2.2.2.1+Int.toNat x.2.2.2.2.2.2.2.1+x.2.2.2.2.2.2.2.2.1.length+Int.toNat x.2.2.2.2.2.2.2.2.2.1+Int.toNat x.2.2.2.2.2.2.2.2.2.2.1+y.1.At.Ag.length+y.1.At.Items.length+1)
def zSY (x:zuU) (y:Unit):Nat:=(Int.toNat x.1+x.2.1.length+Int.toNat x.2.2.1+Int.toNat x.2.2.2.1+x.2.2.2.2.1.length+Int.toNat x.2.2.2.2.2.1+Int.toNat x.2.2.2.2.2.2.1+x.2.2.2.2.2.2.2.1.length+Int.toNat x.2.2.2.2.2.2.2.2.1+Int.toNat x.2.2.2.2.2.2.2.2.2.1+1)
def zUo (x:zup) (y:Unit):Nat:=(Int.toNat x.1+x.2.1.length+Int.toNat x.2.2.1+Int.toNat x.2.2.2.1+x.2.2.2.2.1.length+Int.toNat x.2.2.2.2.2.1+Int.toNat x.2.2.2.2.2.2.1+1)
def zUg (x:zuB) (y:Unit):Nat:=(Int.toNat x.1+x.2.1.length+Int.toNat x.2.2.1+Int.toNat x.2.2.2.1+1)
def zlD (zw:yC->Bool×Int):=zbY base 62 [(115,(zpi zw))] [] [(3,(kpL [3,12,13,14])),(7,(kpL [3,12,13,14,25,26,27])),(10,(kpL [3,7,12,13,14,25,26,27,33,34,35])),(15,(kpL [3,12,13,14,25,26,27,46,47,48]))] [(3,1,(kpL [3])),(7,3,(kpL [3,12,13,14])),(10,5,(kpL [3,7,12,13,14,25,26,27])),(15,7,(kpL [3,12,13,14,25,26,27]))] [(10,spW zVw zUd (zxj zw) default zSD zST),(15,spW zT1 zbcZ (zw6 zw) default zSq zSY),(7,spW zV5 zbcZ (zyV zw) default zT3 zUo),(3,spW zVV zbcZ (zyS zw) default zUy zUg)] []
theorem zS4 (zw:yC->Bool×Int):zA (zlD zw) (lp (body f115) 2):=zp (id:=10) (hl:=rfl)
theorem zSh (zw:yC->Bool×Int):zA (zlD zw) (lp (body f115) 3):=zp (id:=15) (hl:=rfl)
theorem zTT (zw:yC->Bool×Int):zA (zlD zw) (lp (body f115) 1):=zp (id:=7) (hl:=rfl)
theorem zUb (zw:yC->Bool×Int):zA (zlD zw) (lp (body f115) 0):=zp (id:=3) (hl:=rfl)
def zH8 (zw:yC->Bool×Int) (a:yC):Wy0 (Int):=.bn (zHl zw (Int.toNat 0+a.length+(Int.ofNat a.length).toNat +Int.toNat 0+1) 0 a (Int.ofNat a.length) 0) λr10=>.k r10
def zv8 (zw:yC->Bool×Int) (a:yC):=(zH8 zw a).fin default
theorem zQ6 (zw:yC->Bool×Int) (zYz:SdP 115 (zpi zw)):SdP 115 (zpi (zv8 zw)):=
 sT (cx':=(zlD zw)) (zi ⟨zYz,trivial⟩) call115 func115 (lOK (aC (zUb zw) (aC (zTT zw) (aC (zS4 zw) (aC (zSh zw) aN)))))
def zbe8:Nat->(yC->Bool×Int)
 | 0=>λ_=>(false,default)
 | n+1=>zv8 (zbe8 n)
def zl2 (n:Nat):yC->Bool×Int:=zbe8 n
theorem zXt (n:Nat):zl2 (n+1)=zv8 (zl2 n):=rfl
theorem z8r:∀ n,SdP 115 (zpi (zl2 n))
 | 0=>z8 call115 (λ_=>rfl)
 | n+1=>by
  have ih:=z8r n;exact zQ6 _ (ih)
def zHc:yC->Bool×Int:=zl2 1000
def zHi:Ab.Spec ty:=zpi zHc
theorem zUV:SdP 115 zHi:=(z8r 1000)
abbrev zoK:=Int×Unit×Int×yC×Int×Int×yD×Int×Int×yA×Int×Int×Unit
abbrev zFL:=Int×Int×yC×Int×Int×yD×Int×Int×Fc
abbrev zov:=Int×Int×yC×Int×Int×yD×Int×Int×yE×Int×Int×Unit
abbrev zFc:=Int×Int×yC×Int×Int×yD×Int×Int
abbrev zow:=Int×yC×Int×Int×yD×Int×Int×Unit
abbrev zE1:=Int×yC×Int×Int
abbrev zop:=Int×yC×Int×Int×Unit
def zic (zn:yC->Bool×Int) (n_:Int) (inner:Int) (t13:yC) (t14:Int) (t15:Int) (t20:yD) (t21:Int) (t22:Int) (t32:yA) (t33:Int) (t34:Int) (f:Fc):Wy zoK (Fc×Unit) zFL:=.i (decide (t34<t33)) (.i (decide (0<=t34)&&decide (t34<Int.ofNat t32.length)) (.bn (zn (t32.getD t34.toNat default)) λr0=>.h (n_,(),(if r0>inner then r0 else inner),t13,t14,t15,t20,t21,t22,t32,t33,(IntKind.i64.wrap (t34+1)),()) (f,())) .d) (.k (n_,inner,t13,t14,t15,t20,t21,t22,f))
def zrx (zn:yC->Bool×Int) (x:zoK) (y:Fc×Unit):=zic zn x.1 x.2.2.1 x.2.2.2.1 x.2.2.2.2.1 x.2.2.2.2.2.1 x.2.2.2.2.2.2.1 x.2.2.2.2.2.2.2.1 x.2.2.2.2.2.2.2.2.1 x.2.2.2.2.2.2.2.2.2.1 x.2.2.2.2.2.2.2.2.2.2.1 x.2.2.2.2.2.2.2.2.2.2.2.1 y.1
def zBQ (zn:yC->Bool×Int) (n:Nat) (n_:Int) (inner:Int) (t13:yC) (t14:Int) (t15:Int) (t20:yD) (t21:Int) (t22:Int) (t32:yA) (t33:Int) (t34:Int) (f:Fc):=zy (zrx zn) default n (n_,(),inner,t13,t14,t15,t20,t21,t22,t32,t33,t34,()) (f,())
def zN1 (r:zFL):LTree ty:=.done (.exit 4) [.lit (.int .i64 r.1),.ptr 256 0,.lit (.int .i64 r.2.1),.sl 28 r.2.2.1,.lit (.int .i64 r.2.2.2.1),.lit (.int .i64 r.2.2.2.2.1),.sl 69 r.2.2.2.2.2.1,.lit (.int .i64 r.2.2.2.2.2.2.1),.lit (.int .i64 r.2.2.2.2.2.2.2.1)] [.box (base.enc 69 r.2.2.2.2.2.2.2.2) false]
def zPG:LL ty zoK:=za zj (za (zdR 256 0) (za zj (za (lSl 28) (za zj (za zj (za (lSl 69) (za zj (za zj (za (lSl 23) (za zj (za zj zk)))))))))))
def zh5 (zn:yC->Bool×Int) (n_:Int) (inner:Int) (t13:yC) (t14:Int) (t15:Int) (t20:yD) (t21:Int) (t22:Int) (t45:yE) (t46:Int) (t47:Int):Wy zov Unit zFc:=.i (decide (t47<t46)) (.i (decide (0<=t47)&&decide (t47<Int.ofNat t45.length)) (.bn (zn (t45.getD t47.toNat default).Ann) λr2=>.h (n_,(if r2>inner then r2 else inner),t13,t14,t15,t20,t21,t22,t45,t46,(IntKind.i64.wrap (t47+1)),()) ()) .d) (.k (n_,inner,t13,t14,t15,t20,t21,t22))
def zsc (zn:yC->Bool×Int) (x:zov) (y:Unit):=zh5 zn x.1 x.2.1 x.2.2.1 x.2.2.2.1 x.2.2.2.2.1 x.2.2.2.2.2.1 x.2.2.2.2.2.2.1 x.2.2.2.2.2.2.2.1 x.2.2.2.2.2.2.2.2.1 x.2.2.2.2.2.2.2.2.2.1 x.2.2.2.2.2.2.2.2.2.2.1
def zBz (zn:yC->Bool×Int) (n:Nat) (n_:Int) (inner:Int) (t13:yC) (t14:Int) (t15:Int) (t20:yD) (t21:Int) (t22:Int) (t45:yE) (t46:Int) (t47:Int):=zy (zsc zn) default n (n_,inner,t13,t14,t15,t20,t21,t22,t45,t46,t47,()) ()
def zNb (r:zFc):LTree ty:=.done (.exit 6) [.lit (.int .i64 r.1),.lit (.int .i64 r.2.1),.sl 28 r.2.2.1,.lit (.int .i64 r.2.2.2.1),.lit (.int .i64 r.2.2.2.2.1),.sl 69 r.2.2.2.2.2.1,.lit (.int .i64 r.2.2.2.2.2.2.1),.lit (.int .i64 r.2.2.2.2.2.2.2)] []
def zQa:LL ty zov:=za zj (za zj (za (lSl 28) (za zj (za zj (za (lSl 69) (za zj (za zj (za (lSl 100) (za zj (za zj zk))))))))))
def zi6 (zn:yC->Bool×Int) (n_:Int) (t13:yC) (t14:Int) (t15:Int) (t20:yD) (t21:Int) (t22:Int):Wy zow Unit zE1:=.i (decide (t22<t21)) (.i (decide (0<=t22)&&decide (t22<Int.ofNat t20.length)) (.i ((t20.getD t22.toNat default).At.Kind==0) (.h (n_,t13,t14,t15,t20,t21,(IntKind.i64.wrap (t22+1)),()) ()) (.bn (zBQ zn (n_.toNat +Int.toNat 0+t13.length+t14.toNat +t15.toNat +t20.length+t21.toNat +t22.toNat +(t20.getD t22.toNat default).At.Ag.length+(Int.ofNat (t20.getD t22.toNat default).At.Ag.length).toNat +Int.toNat 0+(t20.getD t22.toNat default).At.Ag.length+(t20.getD t22.toNat default).At.Items.length+1) n_ 0 t13 t14 t15 t20 t21 t22 (t20.getD t22.toNat default).At.Ag (Int.ofNat (t20.getD t22.toNat default).At.Ag.length) 0 (FO.mk (At.mk (t20.getD t22.toNat default).At.Kind (t20.getD t22.toNat default).At.Row (t20.getD t22.toNat default).At.Ag (t20.getD t22.toNat default).At.Func (t20.getD t22.toNat default).At.Items (t20.getD t22.toNat default).At.Op (t20.getD t22.toNat default).At.Bd) (t20.getD t22.toNat default).Exp)) λr5=>.bn (zBz zn (r5.1.toNat +r5.2.1.toNat +r5.2.2.1.length+r5.2.2.2.1.toNat +r5.2.2.2.2.1.toNat +r5.2.2.2.2.2.1.length+r5.2.2.2.2.2.2.1.toNat +r5.2.2.2.2.2.2.2.1.toNat +r5.2.2.2.2.2.2.2.2.At.Items.length+(Int.ofNat r5.2.2.2.2.2.2.2.2.At.Items.length).toNat +Int.toNat 0+1) r5.1 r5.2.1 r5.2.2.1 r5.2.2.2.1 r5.2.2.2.2.1 r5.2.2.2.2.2.1 r5.2.2.2.2.2.2.1 r5.2.2.2.2.2.2.2.1 r5.2.2.2.2.2.2.2.2.At.Items (Int.ofNat r5.2.2.2.2.2.2.2.2.At.Items.length) 0) λr4=>.h ((if IntKind.i64.wrap (1+r4.2.1)>r4.1 then IntKind.i64.wrap (1+r4.2.1) else r4.1),(r4.2.2.1),(r4.2.2.2.1),(r4.2.2.2.2.1),(r4.2.2.2.2.2.1),(r4.2.2.2.2.2.2.1),(IntKind.i64.wrap (r4.2.2.2.2.2.2.2+1)),()) ())) .d) (.k (n_,t13,t14,t15))
def ztJ (zn:yC->Bool×Int) (x:zow) (y:Unit):=zi6 zn x.1 x.2.1 x.2.2.1 x.2.2.2.1 x.2.2.2.2.1 x.2.2.2.2.2.1 x.2.2.2.2.2.2.1
def zCZ (zn:yC->Bool×Int) (n:Nat) (n_:Int) (t13:yC) (t14:Int) (t15:Int) (t20:yD) (t21:Int) (t22:Int):=zy (ztJ zn) default n (n_,t13,t14,t15,t20,t21,t22,()) ()
def zO1 (r:zE1):LTree ty:=.done (.exit 2) [.lit (.int .i64 r.1),.sl 28 r.2.1,.lit (.int .i64 r.2.2.1),.lit (.int .i64 r.2.2.2)] []
def zQV:LL ty zow:=za zj (za (lSl 28) (za zj (za zj (za (lSl 69) (za zj (za zj zk))))))
def zi4 (zn:yC->Bool×Int) (n_:Int) (t13:yC) (t14:Int) (t15:Int):Wy zop Unit (Int):=.i (decide (t15<t14)) (.i (decide (0<=t15)&&decide (t15<Int.ofNat t13.length)) (.bn (zCZ zn (n_.toNat +t13.length+t14.toNat +t15.toNat +(t13.getD t15.toNat default).Fs.length+(Int.ofNat (t13.getD t15.toNat default).Fs.length).toNat +Int.toNat 0+1) n_ t13 t14 t15 (t13.getD t15.toNat default).Fs (Int.ofNat (t13.getD t15.toNat default).Fs.length) 0) λr8=>.h ((r8.1),(r8.2.1),(r8.2.2.1),(IntKind.i64.wrap (r8.2.2.2+1)),()) ()) .d) (.k n_)
def ztu (zn:yC->Bool×Int) (x:zop) (y:Unit):=zi4 zn x.1 x.2.1 x.2.2.1 x.2.2.2.1
def zC8 (zn:yC->Bool×Int) (n:Nat) (n_:Int) (t13:yC) (t14:Int) (t15:Int):=zy (ztu zn) default n (n_,t13,t14,t15,()) ()
def zQs:LL ty zop:=za zj (za (lSl 28) (za zj (za zj zk)))
def zNr (x:zoK) (y:Fc×Unit):Nat:=(Int.toNat x.1+Int.toNat x.2.2.1+x.2.2.2.1.length+Int.toNat x.2.2.2.2.1+Int.toNat x.2.2.2.2.2.1+x.2.2.2.2.2.2.1.length+Int.toNat x.2.2.2.2.2.2.2.1+Int.toNat x.2.2.2.2.2.2.2.2.1+x.2.2.2.2.2.2.2.2.2.1.length+Int.toNat x.2.2.2.2.2.2.2.2.2.2.1+Int.toNat x.2.2.2.2.2.2.2.2.2.2.2.1+y.1.At.Ag.length+y.1.At.Items.length+1)
def zNs (x:zov) (y:Unit):Nat:=(Int.toNat x.1+Int.toNat x.2.1+x.2.2.1.length+Int.toNat x.2.2.2.1+Int.toNat x.2.2.2.2.1+x.2.2.2.2.2.1.length+Int.toNat x.2.2.2.2.2.2.1+Int.toNat x.2.2.2.2.2.2.2.1+x.2.2.2.2.2.2.2.2.1.length+Int.toNat x.2.2.2.2.2.2.2.2.2.1+Int.toNat x.2.2.2.2.2.2.2.2.2.2.1+1)
def zOm (x:zow) (y:Unit):Nat:=(Int.toNat x.1+x.2.1.length+Int.toNat x.2.2.1+Int.toNat x.2.2.2.1+x.2.2.2.2.1.length+Int.toNat x.2.2.2.2.2.1+Int.toNat x.2.2.2.2.2.2.1+1)
def zPx (x:zop) (y:Unit):Nat:=(Int.toNat x.1+x.2.1.length+Int.toNat x.2.2.1+Int.toNat x.2.2.2.1+1)
def zjf (zn:yC->Bool×Int):=zbY base 64 [(114,(zpi zn))] [] [(3,(kpL [3,13,14,15])),(6,(kpL [3,13,14,15,20,21,22])),(11,(kpL [3,7,8,13,14,15,20,21,22,32,33,34])),(16,(kpL [3,8,13,14,15,20,21,22,45,46,47]))] [(3,1,(kpL [3])),(6,3,(kpL [3,13,14,15])),(11,5,(kpL [3,7,8,13,14,15,20,21,22])),(16,7,(kpL [3,8,13,14,15,20,21,22]))] [(11,spW zPG zUd (zrx zn) default zN1 zNr),(16,spW zQa zbcZ (zsc zn) default zNb zNs),(6,spW zQV zbcZ (ztJ zn) default zO1 zOm),(3,spW zQs zbcZ (ztu zn) default zUy zPx)] []
theorem zNG (zn:yC->Bool×Int):zA (zjf zn) (lp (body f114) 2):=zp (id:=11) (hl:=rfl)
theorem zNi (zn:yC->Bool×Int):zA (zjf zn) (lp (body f114) 3):=zp (id:=16) (hl:=rfl)
theorem zP1 (zn:yC->Bool×Int):zA (zjf zn) (lp (body f114) 1):=zp (id:=6) (hl:=rfl)
theorem zPJ (zn:yC->Bool×Int):zA (zjf zn) (lp (body f114) 0):=zp (id:=3) (hl:=rfl)
def zDW (zn:yC->Bool×Int) (a:yC):Wy0 (Int):=.bn (zC8 zn (Int.toNat 0+a.length+(Int.ofNat a.length).toNat +Int.toNat 0+1) 0 a (Int.ofNat a.length) 0) λr10=>.k r10
def zpW (zn:yC->Bool×Int) (a:yC):=(zDW zn a).fin default
theorem zLt (zn:yC->Bool×Int) (zTa:SdP 114 (zpi zn)):SdP 114 (zpi (zpW zn)):=
 sT (cx':=(zjf zn)) (zi ⟨zTa,trivial⟩) call114 func114 (lOK (aC (zPJ zn) (aC (zP1 zn) (aC (zNG zn) (aC (zNi zn) aN)))))
def z5b:Nat->(yC->Bool×Int)
 | 0=>λ_=>(false,default)
 | n+1=>zpW (z5b n)
def zgn (n:Nat):yC->Bool×Int:=z5b n
theorem zQO (n:Nat):zgn (n+1)=zpW (zgn n):=rfl
theorem zYc:∀ n,SdP 114 (zpi (zgn n))
 | 0=>z8 call114 (λ_=>rfl)
 | n+1=>by
  have ih:=zYc n;exact zLt _ (ih)
def zCe:yC->Bool×Int:=zgn 1000
def zC3:Ab.Spec ty:=zpi zCe
theorem zPs:SdP 114 zC3:=(zYc 1000)
def zMh:=zbl base 13 []
def zAL (f:Fc):Wy0 (Bool):=.i (decide (f.Exp>64)) (.k true) (.k (decide (Int.ofNat f.At.Items.length>1024)))
def zgk (f:Fc):=(zAL f).fin default
def zNU:AL base (Fc×Unit):=zc (ze (zcl 69)) zo
def ziX:=zh zNU λx=>((zgk x.1).1,zYA (zgk x.1).2)
theorem zml:SdP 117 ziX:=
 sT (cx':=zMh) (zi trivial) call117 func117 (lOK aN)
abbrev zev:=yD×Unit×Int×Int×Unit
def zjI (s:yD) (t7:Int) (t8:Int):Wy zev Unit (Int⊕Unit):=.i (decide (t8<t7)) (.i (decide (0<=t8)&&decide (t8<Int.ofNat s.length)) (.bn (zgk (FO.mk (At.mk (s.getD t8.toNat default).At.Kind (s.getD t8.toNat default).At.Row (s.getD t8.toNat default).At.Ag (s.getD t8.toNat default).At.Func (s.getD t8.toNat default).At.Items (s.getD t8.toNat default).At.Op (s.getD t8.toNat default).At.Bd) (s.getD t8.toNat default).Exp)) λr0=>.i (r0) (.k (.inl t8)) (.h (s,(),t7,(IntKind.i64.wrap (t8+1)),()) ())) .d) (.k (.inr ()))
def zdE (x:zev) (y:Unit):=zjI x.1 x.2.2.1 x.2.2.2.1
def zjx (n:Nat) (s:yD) (t7:Int) (t8:Int):=zy (zdE) (.inl default) n (s,(),t7,t8,()) ()
def zs0 (r:Int⊕Unit):LTree ty:=.ite (isL r) (.done .ret [.lit (.int .i64 (getL r))] []) (.done (.exit 0) [] [])
def zt7:LL ty zev:=za (lSl 69) (za (lFn 117 (zk)) (za zj (za zj zk)))
def ztG (x:zev) (y:Unit):Nat:=(x.1.length+Int.toNat x.2.2.1+Int.toNat x.2.2.2.1+1)
def zjE:=zbY base 19 [(117,ziX)] [] [(2,(kpL [0,1,7,8]))] [(2,1,[]),(2,0,(kpL [4]))] [(2,spW zt7 zbcZ (zdE) (.inl default) zs0 ztG)] []
theorem ztI:zA zjE (lp (body f103) 0):=zp (id:=2) (hl:=rfl)
def zjP (s:yD):Wy0 (Int):=.bn (zjx (s.length+(Int.ofNat s.length).toNat +Int.toNat 0+1) s (Int.ofNat s.length) 0) λr2=>.i (isL r2) (.k (getL r2)) (.k (-1:Int))
def zcZ (s:yD):=(zjP s).fin default
def zvr:AL base (yD×Unit×Unit):=zc (ze (vSl 69)) (zc (ze (vFn 117 zbT)) zo)
def ziD:=zh zvr λx=>((zcZ x.1).1,zTh (zcZ x.1).2)
theorem zrf:SdP 103 ziD:=
 sT (cx':=zjE) (zi ⟨zml,trivial⟩) call103 func103 (lOK (aC ztI aN))
def zrm:=zbl base 9 [(103,ziD),(117,ziX)]
def ziF (s:yD):Wy0 (Bool):=.bn (zcZ s) λr0=>.k (decide (r0≥0))
def zcE (s:yD):=(ziF s).fin default
def zhs:=zh zvr λx=>((zcE x.1).1,zYA (zcE x.1).2)
theorem zpw:SdP 49 zhs:=
 sT (cx':=zrm) (zi ⟨zrf,zml,trivial⟩) call49 func49 (lOK aN)
def zQN:=zbl base 12 [(49,zhs),(117,ziX)]
def zDF (t:Term):Wy0 (Bool):=.i (decide (Int.ofNat t.Fs.length>64)) (.k true) (.bn (zcE t.Fs) λr0=>.k r0)
def zlF (t:Term):=(zDF t).fin default
def zTr:AL base (Term×Unit):=zc (ze (zcl 28)) zo
def zkZ:=zh zTr λx=>((zlF x.1).1,zYA (zlF x.1).2)
theorem zoR:SdP 116 zkZ:=
 sT (cx':=zQN) (zi ⟨zpw,zml,trivial⟩) call116 func116 (lOK aN)
abbrev zeg:=yC×Unit×Int×Int×Unit
def ztb (s:yC) (t7:Int) (t8:Int):Wy zeg Unit (Int⊕Unit):=.i (decide (t8<t7)) (.i (decide (0<=t8)&&decide (t8<Int.ofNat s.length)) (.bn (zlF (s.getD t8.toNat default)) λr0=>.i (r0) (.k (.inl t8)) (.h (s,(),t7,(IntKind.i64.wrap (t8+1)),()) ())) .d) (.k (.inr ()))
def zjj (x:zeg) (y:Unit):=ztb x.1 x.2.2.1 x.2.2.2.1
def ztE (n:Nat) (s:yC) (t7:Int) (t8:Int):=zy (zjj) (.inl default) n (s,(),t7,t8,()) ()
def zsV:LL ty zeg:=za (lSl 28) (za (lFn 116 (zk)) (za zj (za zj zk)))
def zsE (x:zeg) (y:Unit):Nat:=(x.1.length+Int.toNat x.2.2.1+Int.toNat x.2.2.2.1+1)
def zjk:=zbY base 19 [(116,zkZ)] [] [(2,(kpL [0,1,7,8]))] [(2,1,[]),(2,0,(kpL [4]))] [(2,spW zsV zbcZ (zjj) (.inl default) zs0 zsE)] []
theorem zsT:zA zjk (lp (body f113) 0):=zp (id:=2) (hl:=rfl)
def ztX (s:yC):Wy0 (Int):=.bn (ztE (s.length+(Int.ofNat s.length).toNat +Int.toNat 0+1) s (Int.ofNat s.length) 0) λr2=>.i (isL r2) (.k (getL r2)) (.k (-1:Int))
def zdZ (s:yC):=(ztX s).fin default
def zug:AL base (yC×Unit×Unit):=zc (ze (vSl 28)) (zc (ze (vFn 116 zbT)) zo)
def zij:=zh zug λx=>((zdZ x.1).1,zTh (zdZ x.1).2)
theorem zq9:SdP 113 zij:=
 sT (cx':=zjk) (zi ⟨zoR,trivial⟩) call113 func113 (lOK (aC zsT aN))
def zqN:=zbl base 9 [(113,zij),(116,zkZ)]
def zhY (s:yC):Wy0 (Bool):=.bn (zdZ s) λr0=>.k (decide (r0≥0))
def zcx (s:yC):=(zhY s).fin default
def zg4:=zh zug λx=>((zcx x.1).1,zYA (zcx x.1).2)
theorem zo0:SdP 59 zg4:=
 sT (cx':=zqN) (zi ⟨zq9,zoR,trivial⟩) call59 func59 (lOK aN)
def zWD:=zbl base 19 [(59,zg4),(114,zC3),(115,zHi),(116,zkZ)]
def zIf (a:yC):Wy0 (Bool):=.i (decide (Int.ofNat a.length>512)) (.k false) (.bn (zCe a) λr2=>.i (decide (r2>8)) (.k false) (.bn (zHc a) λr1=>.i (decide (r1>4096)) (.k false) (.bn (zcx a) λr0=>.k (!r0))))
def zl0 (a:yC):=(zIf a).fin default
def zu8:=zh z2g λx=>((zl0 x.1).1,zYA (zl0 x.1).2)
theorem zC7:SdP 62 zu8:=
 sT (cx':=zWD) (zi ⟨zo0,zPs,zUV,zoR,trivial⟩) call62 func62 (lOK aN)
abbrev zsg:=yC×Unit×yC×Int×Int×yD×Int×Int×Unit
abbrev zIc:=Bool⊕(yC×yC×Int×Int)
abbrev zsf:=yC×yC×Int×Int×Unit
def zkM (zH:At->Bool×Bool) (a:yC) (t10:yC) (t11:Int) (t12:Int) (t40:yD) (t41:Int) (t42:Int) (t:Term):Wy zsg (Term×Unit) zIc:=.i (decide (t42<t41)) (.i (decide (0<=t42)&&decide (t42<Int.ofNat t40.length)) (.i (decide ((t40.getD t42.toNat default).Exp<1)) (.k (.inl false)) (.bn (zfT (At.mk (t40.getD t42.toNat default).At.Kind (t40.getD t42.toNat default).At.Row (t40.getD t42.toNat default).At.Ag (t40.getD t42.toNat default).At.Func (t40.getD t42.toNat default).At.Items (t40.getD t42.toNat default).At.Op (t40.getD t42.toNat default).At.Bd)) λr6=>.i (r6) (.i ((t40.getD t42.toNat default).Exp != 1) (.k (.inl false)) (.i (decide (t42>0)) (.i (decide (0<=IntKind.i64.wrap (t42 - 1))&&decide (IntKind.i64.wrap (t42 - 1)<Int.ofNat t.Fs.length)) (.bn (zi9 (At.mk (t.Fs.getD (IntKind.i64.wrap (t42 - 1)).toNat default).At.Kind (t.Fs.getD (IntKind.i64.wrap (t42 - 1)).toNat default).At.Row (t.Fs.getD (IntKind.i64.wrap (t42 - 1)).toNat default).At.Ag (t.Fs.getD (IntKind.i64.wrap (t42 - 1)).toNat default).At.Func (t.Fs.getD (IntKind.i64.wrap (t42 - 1)).toNat default).At.Items (t.Fs.getD (IntKind.i64.wrap (t42 - 1)).toNat default).At.Op (t.Fs.getD (IntKind.i64.wrap (t42 - 1)).toNat default).At.Bd) (At.mk (t40.getD t42.toNat default).At.Kind (t40.getD t42.toNat default).At.Row (t40.getD t42.toNat default).At.Ag (t40.getD t42.toNat default).At.Func (t40.getD t42.toNat default).At.Items (t40.getD t42.toNat default).At.Op (t40.getD t42.toNat default).At.Bd)) λr1=>.i (decide (r1≥0)) (.k (.inl false)) (.bn (zH (At.mk (t40.getD t42.toNat default).At.Kind (t40.getD t42.toNat default).At.Row (t40.getD t42.toNat default).At.Ag (t40.getD t42.toNat default).At.Func (t40.getD t42.toNat default).At.Items (t40.getD t42.toNat default).At.Op (t40.getD t42.toNat default).At.Bd)) λr0=>.i (!r0) (.k (.inl false)) (.h (a,(),t10,t11,t12,t40,t41,(IntKind.i64.wrap (t42+1)),()) (t,())))) .d) (.bn (zH (At.mk (t40.getD t42.toNat default).At.Kind (t40.getD t42.toNat default).At.Row (t40.getD t42.toNat default).At.Ag (t40.getD t42.toNat default).At.Func (t40.getD t42.toNat default).At.Items (t40.getD t42.toNat default).At.Op (t40.getD t42.toNat default).At.Bd)) λr2=>.i (!r2) (.k (.inl false)) (.h (a,(),t10,t11,t12,t40,t41,(IntKind.i64.wrap (t42+1)),()) (t,()))))) (.i (decide (t42>0)) (.i (decide (0<=IntKind.i64.wrap (t42 - 1))&&decide (IntKind.i64.wrap (t42 - 1)<Int.ofNat t.Fs.length)) (.bn (zi9 (At.mk (t.Fs.getD (IntKind.i64.wrap (t42 - 1)).toNat default).At.Kind (t.Fs.getD (IntKind.i64.wrap (t42 - 1)).toNat default).At.Row (t.Fs.getD (IntKind.i64.wrap (t42 - 1)).toNat default).At.Ag (t.Fs.getD (IntKind.i64.wrap (t42 - 1)).toNat default).At.Func (t.Fs.getD (IntKind.i64.wrap (t42 - 1)).toNat default).At.Items (t.Fs.getD (IntKind.i64.wrap (t42 - 1)).toNat default).At.Op (t.Fs.getD (IntKind.i64.wrap (t42 - 1)).toNat default).At.Bd) (At.mk (t40.getD t42.toNat default).At.Kind (t40.getD t42.toNat default).At.Row (t40.getD t42.toNat default).At.Ag (t40.getD t42.toNat default).At.Func (t40.getD t42.toNat default).At.Items (t40.getD t42.toNat default).At.Op (t40.getD t42.toNat default).At.Bd)) λr4=>.i (decide (r4≥0)) (.k (.inl false)) (.bn (zH (At.mk (t40.getD t42.toNat default).At.Kind (t40.getD t42.toNat default).At.Row (t40.getD t42.toNat default).At.Ag (t40.getD t42.toNat default).At.Func (t40.getD t42.toNat default).At.Items (t40.getD t42.toNat default).At.Op (t40.getD t42.toNat default).At.Bd)) λr3=>.i (!r3) (.k (.inl false)) (.h (a,(),t10,t11,t12,t40,t41,(IntKind.i64.wrap (t42+1)),()) (t,())))) .d) (.bn (zH (At.mk (t40.getD t42.toNat default).At.Kind (t40.getD t42.toNat default).At.Row (t40.getD t42.toNat default).At.Ag (t40.getD t42.toNat default).At.Func (t40.getD t42.toNat default).At.Items (t40.getD t42.toNat default).At.Op (t40.getD t42.toNat default).At.Bd)) λr5=>.i (!r5) (.k (.inl false)) (.h (a,(),t10,t11,t12,t40,t41,(IntKind.i64.wrap (t42+1)),()) (t,())))))) .d) (.k (.inr (a,t10,t11,t12)))
def zwz (zH:At->Bool×Bool) (x:zsg) (y:Term×Unit):=zkM zH x.1 x.2.2.1 x.2.2.2.1 x.2.2.2.2.1 x.2.2.2.2.2.1 x.2.2.2.2.2.2.1 x.2.2.2.2.2.2.2.1 y.1
def zwI (zH:At->Bool×Bool) (n:Nat) (a:yC) (t10:yC) (t11:Int) (t12:Int) (t40:yD) (t41:Int) (t42:Int) (t:Term):=zy (zwz zH) (.inl default) n (a,(),t10,t11,t12,t40,t41,t42,()) (t,())
def zTe (r:zIc):LTree ty:=.ite (isL r) (.done .ret [.lit (.bool (getL r))] []) (.done (.exit 2) [.sl 28 (getR r).1,.sl 28 (getR r).2.1,.lit (.int .i64 (getR r).2.2.1),.lit (.int .i64 (getR r).2.2.2)] [])
def zUZ:LL ty zsg:=za (lSl 28) (za (zdR 340 0) (za (lSl 28) (za zj (za zj (za (lSl 69) (za zj (za zj zk)))))))
def zVn:BL ty (Term×Unit):=zff (zeK (λx=>(⟨x.1,x.2.1⟩:Term)) (λx=>(x.Cf,x.Fs,())) (λ_=>rfl) (za (zI .i64) (za (lSl 69) zk))) false (z6)
def zkC (zH:At->Bool×Bool) (a:yC) (t10:yC) (t11:Int) (t12:Int):Wy zsf Unit (Bool⊕Unit):=.i (decide (t12<t11)) (.i (decide (0<=t12)&&decide (t12<Int.ofNat t10.length)) (.i (decide ((t10.getD t12.toNat default).Cf<1)) (.k (.inl false)) (.i (decide ((t10.getD t12.toNat default).Cf>1152921504606846976)) (.k (.inl false)) (.i (decide (t12>0)) (.i (decide (0<=IntKind.i64.wrap (t12 - 1))&&decide (IntKind.i64.wrap (t12 - 1)<Int.ofNat a.length)) (.bn (zb8 (a.getD (IntKind.i64.wrap (t12 - 1)).toNat default) (t10.getD t12.toNat default)) λr15=>.i (decide (r15≥0)) (.k (.inl false)) (.bn (zwI zH (a.length+t10.length+t11.toNat +t12.toNat +(t10.getD t12.toNat default).Fs.length+(Int.ofNat (t10.getD t12.toNat default).Fs.length).toNat +Int.toNat 0+(t10.getD t12.toNat default).Fs.length+1) a t10 t11 t12 (t10.getD t12.toNat default).Fs (Int.ofNat (t10.getD t12.toNat default).Fs.length) 0 (t10.getD t12.toNat default)) λr14=>.i (isL r14) (.k (.inl (getL r14))) (.h ((getR r14).1,(getR r14).2.1,(getR r14).2.2.1,(IntKind.i64.wrap ((getR r14).2.2.2+1)),()) ()))) .d) (.bn (zwI zH (a.length+t10.length+t11.toNat +t12.toNat +(t10.getD t12.toNat default).Fs.length+(Int.ofNat (t10.getD t12.toNat default).Fs.length).toNat +Int.toNat 0+(t10.getD t12.toNat default).Fs.length+1) a t10 t11 t12 (t10.getD t12.toNat default).Fs (Int.ofNat (t10.getD t12.toNat default).Fs.length) 0 (t10.getD t12.toNat default)) λr16=>.i (isL r16) (.k (.inl (getL r16))) (.h ((getR r16).1,(getR r16).2.1,(getR r16).2.2.1,(IntKind.i64.wrap ((getR r16).2.2.2+1)),()) ()))))) .d) (.k (.inr ()))
def zwx (zH:At->Bool×Bool) (x:zsf) (y:Unit):=zkC zH x.1 x.2.1 x.2.2.1 x.2.2.2.1
def zFe (zH:At->Bool×Bool) (n:Nat) (a:yC) (t10:yC) (t11:Int) (t12:Int):=zy (zwx zH) (.inl default) n (a,t10,t11,t12,()) ()
def zSy (r:Bool⊕Unit):LTree ty:=.ite (isL r) (.done .ret [.lit (.bool (getL r))] []) (.done (.exit 0) [] [])
def zU3:LL ty zsf:=za (lSl 28) (za (lSl 28) (za zj (za zj zk)))
def zTb (x:zsg) (y:Term×Unit):Nat:=(x.1.length+x.2.2.1.length+Int.toNat x.2.2.2.1+Int.toNat x.2.2.2.2.1+x.2.2.2.2.2.1.length+Int.toNat x.2.2.2.2.2.2.1+Int.toNat x.2.2.2.2.2.2.2.1+y.1.Fs.length+1)
def zTG (x:zsf) (y:Unit):Nat:=(x.1.length+x.2.1.length+Int.toNat x.2.2.1+Int.toNat x.2.2.2.1+1)
def zw8 (zH:At->Bool×Bool):=zbY base 85 [(62,zu8),(63,ziS),(64,zkd),(65,zna),(66,(znw zH))] [] [(4,(kpL [0,10,11,12])),(9,(kpL [0,4,10,11,12,40,41,42]))] [(4,1,[]),(4,0,(kpL [2])),(9,3,(kpL [0,10,11,12])),(9,0,(kpL [2]))] [(9,spW zUZ zVn (zwz zH) (.inl default) zTe zTb),(4,spW zU3 zbcZ (zwx zH) (.inl default) zSy zTG)] []
theorem zSV (zH:At->Bool×Bool):zA (zw8 zH) (lp (body f20) 1):=zp (id:=9) (hl:=rfl)
theorem zTJ (zH:At->Bool×Bool):zA (zw8 zH) (lp (body f20) 0):=zp (id:=4) (hl:=rfl)
def zHj (zH:At->Bool×Bool) (a:yC):Wy0 (Bool):=.bn (zl0 a) λr21=>.i (!r21) (.k false) (.bn (zFe zH (a.length+a.length+(Int.ofNat a.length).toNat +Int.toNat 0+1) a a (Int.ofNat a.length) 0) λr20=>.i (isL r20) (.k (getL r20)) (.k true))
def zn4 (zH:At->Bool×Bool) (a:yC):=(zHj zH a).fin default
theorem zPE (zH:At->Bool×Bool) (zOC:SdP 66 (znw zH)):SdP 20 (zh3 (zn4 zH)):=
 sT (cx':=(zw8 zH)) (zi ⟨zC7,zmn,zob,zvK,zOC,trivial⟩) call20 func20 (lOK (aC (zTJ zH) (aC (zSV zH) aN)))
def zYL:=zbl base 9 [(67,ztf)]
def zJ2 (a:yC) (b:yC):Wy0 (Bool):=.bn (zuq a b) λr0=>.k (r0==0)
def zie (a:yC) (b:yC):=(zJ2 a b).fin default
def zoB:=zh zWv λx=>((zie x.1 x.2.1).1,zYA (zie x.1 x.2.1).2)
theorem zvC:SdP 21 zoB:=
 sT (cx':=zYL) (zi ⟨zBl,trivial⟩) call21 func21 (lOK aN)
def zbaa:=zbl base 36 []
def zXW (v:Value):Wy0 (Bool):=.i (v.Kind==0) (.k (v.Text.toList==(ByteArray.mk #[]).toList)) (.i (v.Kind==1) (.i (v.Int==0) (.k (decide (Int.ofNat v.Text.size<=255))) (.k false)) (.i (v.Kind==2) (.i (v.Int==0) (.k (v.Text.toList==(ByteArray.mk #[]).toList)) (.i (v.Int==1) (.k (v.Text.toList==(ByteArray.mk #[]).toList)) (.k false))) (.k false)))
def zvs (v:Value):=(zXW v).fin default
def zbcW:AL base (Value×Unit):=zc (ze (zcl 65)) zo
def zx7:=zh zbcW λx=>((zvs x.1).1,zYA (zvs x.1).2)
theorem zDf:SdP 164 zx7:=
 sT (cx':=zbaa) (zi trivial) call164 func164 (lOK aN)
def zO0:=zbl base 27 [(164,zx7)]
def zCY (w:Wd) (p1:Value) (p2:Int):Wy0 (Bool):=.bn (zvs w.Value) λr0=>.i (!r0) (.k true) (.i (w.Value.Kind != p1.Kind) (.k true) (.i (p2==0) (.k (w.Value.Int != 1)) (.k false)))
def zhF (w:Wd) (p1:Value) (p2:Int):=(zCY w p1 p2).fin default
def zQK:AL base (Wd×Value×(Int×Unit)×Unit):=zc (ze (zcl 100)) (zc (ze (zAz 65)) (zc (ze (zvh (zdA zf3 zbT))) zo))
def zkf:=zh zQK λx=>((zhF x.1 x.2.1 x.2.2.1.1).1,zYA (zhF x.1 x.2.1 x.2.2.1.1).2)
theorem zn8:SdP 165 zkf:=
 sT (cx':=zO0) (zi ⟨zDf,trivial⟩) call165 func165 (lOK aN)
abbrev zdJ:=yE×(Value×(Int×Unit)×Unit)×Int×Int×Unit
def zqH (s:yE) (f_0:Value) (f_1:Int) (t7:Int) (t8:Int):Wy zdJ Unit (Int⊕Unit):=.i (decide (t8<t7)) (.i (decide (0<=t8)&&decide (t8<Int.ofNat s.length)) (.bn (zhF (s.getD t8.toNat default) f_0 f_1) λr0=>.i (r0) (.k (.inl t8)) (.h (s,(f_0,(f_1,()),()),t7,(IntKind.i64.wrap (t8+1)),()) ())) .d) (.k (.inr ()))
def zhH (x:zdJ) (y:Unit):=zqH x.1 x.2.1.1 x.2.1.2.1.1 x.2.2.1 x.2.2.2.1
def zqO (n:Nat) (s:yE) (f_0:Value) (f_1:Int) (t7:Int) (t8:Int):=zy (zhH) (.inl default) n (s,(f_0,(f_1,()),()),t7,t8,()) ()
def zq4:LL ty zdJ:=za (lSl 100) (za (lFn 165 (za (znH (zeK (λx=>(⟨x.1,x.2.1,x.2.2.1⟩:Value)) (λx=>(x.Kind,x.Int,x.Text,())) (λ_=>rfl) (za zj (za zj (za znV zk)))) 0) (za (znH (za zj zk) 0) zk))) (za zj (za zj zk)))
def zpE (x:zdJ) (y:Unit):Nat:=(x.1.length+Int.toNat x.2.1.2.1.1+Int.toNat x.2.2.1+Int.toNat x.2.2.2.1+1)
def zhI:=zbY base 19 [(165,zkf)] [] [(2,(kpL [0,1,7,8]))] [(2,1,[]),(2,0,(kpL [4]))] [(2,spW zq4 zbcZ (zhH) (.inl default) zs0 zpE)] []
theorem zqc:zA zhI (lp (body f163) 0):=zp (id:=2) (hl:=rfl)
def zr5 (s:yE) (f_0:Value) (f_1:Int):Wy0 (Int):=.bn (zqO (s.length+f_1.toNat +(Int.ofNat s.length).toNat +Int.toNat 0+1) s f_0 f_1 (Int.ofNat s.length) 0) λr2=>.i (isL r2) (.k (getL r2)) (.k (-1:Int))
def zds (s:yE) (f_0:Value) (f_1:Int):=(zr5 s f_0 f_1).fin default
def zrE:AL base (yE×(Value×(Int×Unit)×Unit)×Unit):=zc (ze (vSl 100)) (zc (ze (vFn 165 (zdA (zAz 65) (zdA (zvh (zdA zf3 zbT)) zbT)))) zo)
def zgX:=zh zrE λx=>((zds x.1 x.2.1.1 x.2.1.2.1.1).1,zTh (zds x.1 x.2.1.1 x.2.1.2.1.1).2)
theorem zo9:SdP 163 zgX:=
 sT (cx':=zhI) (zi ⟨zn8,trivial⟩) call163 func163 (lOK (aC zqc aN))
def zo1:=zbl base 9 [(163,zgX),(165,zkf)]
def zg6 (s:yE) (f_0:Value) (f_1:Int):Wy0 (Bool):=.bn (zds s f_0 f_1) λr0=>.k (decide (r0≥0))
def zbI (s:yE) (f_0:Value) (f_1:Int):=(zg6 s f_0 f_1).fin default
def zga:=zh zrE λx=>((zbI x.1 x.2.1.1 x.2.1.2.1.1).1,zYA (zbI x.1 x.2.1.1 x.2.1.2.1.1).2)
theorem znk:SdP 132 zga:=
 sT (cx':=zo1) (zi ⟨zo9,zn8,trivial⟩) call132 func132 (lOK aN)
def zTU:=zbl base 43 [(132,zga),(164,zx7),(165,zkf)]
def zHe (fn:Int) (items:yE) (op:Int) (bound:Value):Wy0 (Bool):=.i (decide (fn<0)) (.k false) (.i (decide (fn>3)) (.k false) (.i (decide (op<5)) (.k false) (.i (decide (op>10)) (.k false) (.bn (zvs bound) λr3=>.i (!r3) (.k false) (.i (fn==0) (.i (bound.Kind != 0) (.k false) (.bn (zbI items bound fn) λr0=>.k (!r0))) (.i (fn==1) (.i (bound.Kind != 0) (.k false) (.bn (zbI items bound fn) λr1=>.k (!r1))) (.bn (zbI items bound fn) λr2=>.k (!r2))))))))
def zkI (fn:Int) (items:yE) (op:Int) (bound:Value):=(zHe fn items op bound).fin default
def zWe:AL base (Int×yE×Int×Value×Unit):=zc (ze zf3) (zc (ze (vSl 100)) (zc (ze zf3) (zc (ze (zcl 65)) zo)))
def zsW:=zh zWe λx=>((zkI x.1 x.2.1 x.2.2.1 x.2.2.2.1).1,zYA (zkI x.1 x.2.1 x.2.2.1 x.2.2.2.1).2)
theorem zBj:SdP 135 zsW:=
 sT (cx':=zTU) (zi ⟨znk,zDf,zn8,trivial⟩) call135 func135 (lOK aN)
def zIu:=zbl base 7 []
def zxW (t:Term):Wy0 (Bool):=.k (Int.ofNat t.Fs.length==0)
def zhk (t:Term):=(zxW t).fin default
def zhq:=zh zTr λx=>((zhk x.1).1,zYA (zhk x.1).2)
theorem zk8:SdP 162 zhq:=
 sT (cx':=zIu) (zi trivial) call162 func162 (lOK aN)
abbrev zei:=yC×Unit×Int×Int×Unit
def ztH (s:yC) (t7:Int) (t8:Int):Wy zei Unit (Int⊕Unit):=.i (decide (t8<t7)) (.i (decide (0<=t8)&&decide (t8<Int.ofNat s.length)) (.i ((zhk (s.getD t8.toNat default)).2) (.k (.inl t8)) (.h (s,(),t7,(IntKind.i64.wrap (t8+1)),()) ())) .d) (.k (.inr ()))
def zi3 (x:zei) (y:Unit):=ztH x.1 x.2.2.1 x.2.2.2.1
def ztl (n:Nat) (s:yC) (t7:Int) (t8:Int):=zy (zi3) (.inl default) n (s,(),t7,t8,()) ()
def ztz:LL ty zei:=za (lSl 28) (za (lFn 162 (zk)) (za zj (za zj zk)))
def zsI (x:zei) (y:Unit):Nat:=(x.1.length+Int.toNat x.2.2.1+Int.toNat x.2.2.2.1+1)
def zi2:=zbY base 19 [(162,zhq)] [] [(2,(kpL [0,1,7,8]))] [(2,1,[]),(2,0,(kpL [4]))] [(2,spW ztz zbcZ (zi3) (.inl default) zs0 zsI)] []
theorem zsn:zA zi2 (lp (body f113) 0):=zp (id:=2) (hl:=rfl)
def zuI (s:yC):Wy0 (Int):=.bn (ztl (s.length+(Int.ofNat s.length).toNat +Int.toNat 0+1) s (Int.ofNat s.length) 0) λr0=>.i (isL r0) (.k (getL r0)) (.k (-1:Int))
def zdX (s:yC):=(zuI s).fin default
def zun:AL base (yC×Unit×Unit):=zc (ze (vSl 28)) (zc (ze (vFn 162 zbT)) zo)
def zhU:=zh zun λx=>((zdX x.1).1,zTh (zdX x.1).2)
theorem zqF:SdP 113 zhU:=
 sT (cx':=zi2) (zi ⟨zk8,trivial⟩) call113 func113 (lOK (aC zsn aN))
def zq6:=zbl base 9 [(113,zhU),(162,zhq)]
def zh2 (s:yC):Wy0 (Bool):=.bn (zdX s) λr0=>.k (decide (r0≥0))
def zdu (s:yC):=(zh2 s).fin default
def zgZ:=zh zun λx=>((zdu x.1).1,zYA (zdu x.1).2)
theorem zpa:SdP 59 zgZ:=
 sT (cx':=zq6) (zi ⟨zqF,zk8,trivial⟩) call59 func59 (lOK aN)
def zNz:=zbl base 5 [(59,zgZ),(162,zhq)]
def zBt (a:yC):Wy0 (Bool):=.bn (zdu a) λr0=>.k r0
def zfe (a:yC):=(zBt a).fin default
def znP:=zh z2g λx=>((zfe x.1).1,zYA (zfe x.1).2)
theorem zwt:SdP 131 znP:=
 sT (cx':=zNz) (zi ⟨zpa,zk8,trivial⟩) call131 func131 (lOK aN)
def zPY:=zbl base 14 []
def zC2 (a:yC):Wy0 (Bool):=.i (Int.ofNat a.length==1) (.i (decide ((0:Int)<=(0:Int))&&decide (0<Int.ofNat a.length)) (.k (Int.ofNat (a.getD (Int.toNat 0) default).Fs.length==0)) .d) (.k false)
def zhM (a:yC):=(zC2 a).fin default
def zoU:=zh z2g λx=>((zhM x.1).1,zYA (zhM x.1).2)
theorem zx2:SdP 129 zoU:=
 sT (cx':=zPY) (zi trivial) call129 func129 (lOK aN)
def zWV:=zbl base 42 [(64,zkd)]
def zIi (a:yC):Wy0 (Bool):=.i (Int.ofNat a.length != 1) (.k false) (.i (decide ((0:Int)<=(0:Int))&&decide (0<Int.ofNat a.length)) (.i ((a.getD (Int.toNat 0) default).Cf != 1) (.k false) (.i (decide ((0:Int)<=(0:Int))&&decide (0<Int.ofNat a.length)) (.i (Int.ofNat (a.getD (Int.toNat 0) default).Fs.length != 1) (.k false) (.i (decide ((0:Int)<=(0:Int))&&decide (0<Int.ofNat a.length)) (.i (decide ((0:Int)<=(0:Int))&&decide (0<Int.ofNat (a.getD (Int.toNat 0) default).Fs.length)) (.i (((a.getD (Int.toNat 0) default).Fs.getD (Int.toNat 0) default).Exp==1) (.i (((a.getD (Int.toNat 0) default).Fs.getD (Int.toNat 0) default).At.Kind==2) (.k true) (.bn (zfT (At.mk ((a.getD (Int.toNat 0) default).Fs.getD (Int.toNat 0) default).At.Kind ((a.getD (Int.toNat 0) default).Fs.getD (Int.toNat 0) default).At.Row ((a.getD (Int.toNat 0) default).Fs.getD (Int.toNat 0) default).At.Ag ((a.getD (Int.toNat 0) default).Fs.getD (Int.toNat 0) default).At.Func ((a.getD (Int.toNat 0) default).Fs.getD (Int.toNat 0) default).At.Items ((a.getD (Int.toNat 0) default).Fs.getD (Int.toNat 0) default).At.Op ((a.getD (Int.toNat 0) default).Fs.getD (Int.toNat 0) default).At.Bd)) λr0=>.k r0)) (.k false)) .d) .d)) .d)) .d)
def zlZ (a:yC):=(zIi a).fin default
def zvu:=zh z2g λx=>((zlZ x.1).1,zYA (zlZ x.1).2)
theorem zC9:SdP 130 zvu:=
 sT (cx':=zWV) (zi ⟨zob,trivial⟩) call130 func130 (lOK aN)
def z7S:=zbl base 11 []
def zUe (id:RowID):Wy0 (Bool):=.i (decide (id.Table≥1)) (.k (decide (id.Seq≥1))) (.k false)
def zrC (id:RowID):=(zUe id).fin default
def zbai:AL base (RowID×Unit):=zc (ze (zcl 49)) zo
def zv4:=zh zbai λx=>((zrC x.1).1,zYA (zrC x.1).2)
theorem zBs:SdP 128 zv4:=
 sT (cx':=z7S) (zi trivial) call128 func128 (lOK aN)
abbrev ze3:=yE×Unit×Int×Unit
def zeD (x_:yE) (i:Int):Wy ze3 Unit (Bool⊕Unit):=.i (decide (i>0)) (.i (decide (0<=i)&&decide (i<Int.ofNat x_.length)) (.i (decide (0<=IntKind.i64.wrap (i - 1))&&decide (IntKind.i64.wrap (i - 1)<Int.ofNat x_.length)) (.bn (zbm (x_.getD i.toNat default) (x_.getD (IntKind.i64.wrap (i - 1)).toNat default)) λr0=>.i (decide (r0<0)) (.k (.inl false)) (.h (x_,(),(IntKind.i64.wrap (i - 1)),()) ())) .d) .d) (.k (.inr ()))
def zhN (x:ze3) (y:Unit):=zeD x.1 x.2.2.1
def zeC (n:Nat) (x_:yE) (i:Int):=zy (zhN) (.inl default) n (x_,(),i,()) ()
def zq1:LL ty ze3:=za (lSl 100) (za (lFn 124 (zk)) (za zj zk))
def zhJ:=zbY base 25 [(124,zfW)] [] [(2,(kpL [0,1,5]))] [(2,1,[]),(2,0,(kpL [4]))] [(2,spW zq1 zbcZ (zhN) (.inl default) zSy λx y=>(x.1.length+Int.toNat x.2.2.1+1))] []
theorem zpZ:zA zhJ (lp (body f134) 0):=zp (id:=2) (hl:=rfl)
def zhX (x_:yE):Wy0 (Bool):=.bn (zeC (x_.length+(IntKind.i64.wrap (Int.ofNat x_.length - 1)).toNat +1) x_ (IntKind.i64.wrap (Int.ofNat x_.length - 1))) λr2=>.i (isL r2) (.k (getL r2)) (.k true)
def zcw (x_:yE):=(zhX x_).fin default
def zro:AL base (yE×Unit×Unit):=zc (ze (vSl 100)) (zc (ze (vFn 124 zbT)) zo)
def zg3:=zh zro λx=>((zcw x.1).1,zYA (zcw x.1).2)
theorem zo5:SdP 134 zg3:=
 sT (cx':=zhJ) (zi ⟨zhP,trivial⟩) call134 func134 (lOK (aC zpZ aN))
def zc1 (zb:yA->Bool×Bool) (zf:yC->Bool×Bool) (zd:yE->Bool×Bool) (zg:Wd->Bool×Bool):=zbl base 149 [(21,zoB),(124,zfW),(126,(zcA zb)),(127,(zh3 zf)),(128,zv4),(129,zoU),(130,zvu),(131,znP),(132,(zcV zd)),(133,(zdy zg)),(134,zg3),(135,zsW)]
def zcm (zb:yA->Bool×Bool) (zf:yC->Bool×Bool) (zd:yE->Bool×Bool) (zg:Wd->Bool×Bool) (x_:At):Wy0 (Bool):=.i (x_.Kind==0) (.i (x_.Func != 0) (.k false) (.i (Int.ofNat x_.Items.length != 0) (.k false) (.i (x_.Op != 0) (.k false) (.i (!(x_.Bd.Kind==0&&(x_.Bd.Int==0&&(x_.Bd.Text.toList==(ByteArray.mk #[]).toList&&true)))) (.k false) (.bn (zb x_.Ag) λr1=>.i (r1) (.k false) (.bn (zrC x_.Row) λr0=>.i (r0) (.k (Int.ofNat x_.Ag.length==0)) (.k false))))))) (.i (x_.Kind==1) (.i (x_.Func != 0) (.k false) (.i (Int.ofNat x_.Items.length != 0) (.k false) (.i (x_.Op != 0) (.k false) (.i (!(x_.Bd.Kind==0&&(x_.Bd.Int==0&&(x_.Bd.Text.toList==(ByteArray.mk #[]).toList&&true)))) (.k false) (.i (!(x_.Row.Table==0&&(x_.Row.Seq==0&&true))) (.k false) (.bn (zb x_.Ag) λr3=>.i (r3) (.k false) (.i (Int.ofNat x_.Ag.length==2) (.i (decide ((0:Int)<=(0:Int))&&decide (0<Int.ofNat x_.Ag.length)) (.i (decide ((0:Int)<=(1:Int))&&decide (1<Int.ofNat x_.Ag.length)) (.bn (zie (x_.Ag.getD (Int.toNat 0) default) (x_.Ag.getD (Int.toNat 1) default)) λr2=>.k (!r2)) .d) .d) (.k false)))))))) (.i (x_.Kind==2) (.i (x_.Func != 0) (.k false) (.i (Int.ofNat x_.Items.length != 0) (.k false) (.i (x_.Op != 0) (.k false) (.i (!(x_.Bd.Kind==0&&(x_.Bd.Int==0&&(x_.Bd.Text.toList==(ByteArray.mk #[]).toList&&true)))) (.k false) (.i (!(x_.Row.Table==0&&(x_.Row.Seq==0&&true))) (.k false) (.bn (zb x_.Ag) λr6=>.i (r6) (.k false) (.i (Int.ofNat x_.Ag.length==1) (.i (decide ((0:Int)<=(0:Int))&&decide (0<Int.ofNat x_.Ag.length)) (.bn (zhM (x_.Ag.getD (Int.toNat 0) default)) λr5=>.i (!r5) (.i (decide ((0:Int)<=(0:Int))&&decide (0<Int.ofNat x_.Ag.length)) (.bn (zlZ (x_.Ag.getD (Int.toNat 0) default)) λr4=>.k (!r4)) .d) (.k false)) .d) (.k false)))))))) (.i (x_.Kind==3) (.i (x_.Func != 0) (.k false) (.i (Int.ofNat x_.Items.length != 0) (.k false) (.i (x_.Op != 0) (.k false) (.i (!(x_.Bd.Kind==0&&(x_.Bd.Int==0&&(x_.Bd.Text.toList==(ByteArray.mk #[]).toList&&true)))) (.k false) (.i (!(x_.Row.Table==0&&(x_.Row.Seq==0&&true))) (.k false) (.bn (zb x_.Ag) λr8=>.i (r8) (.k false) (.i (Int.ofNat x_.Ag.length==1) (.i (decide ((0:Int)<=(0:Int))&&decide (0<Int.ofNat x_.Ag.length)) (.bn (zfe (x_.Ag.getD (Int.toNat 0) default)) λr7=>.k (!r7)) .d) (.k false)))))))) (.i (x_.Kind==4) (.i (!(x_.Row.Table==0&&(x_.Row.Seq==0&&true))) (.k false) (.bn (zb x_.Ag) λr12=>.i (r12) (.k false) (.bn (zd x_.Items) λr11=>.i (Int.ofNat x_.Ag.length==0) (.i (decide (Int.ofNat x_.Items.length>0)) (.i (!r11) (.bn (zcw x_.Items) λr10=>.i (r10) (.bn (zkI x_.Func x_.Items x_.Op x_.Bd) λr9=>.k r9) (.k false)) (.k false)) (.k false)) (.k false)))) (.i (x_.Func != 0) (.k false) (.i (Int.ofNat x_.Items.length != 0) (.k false) (.i (x_.Op != 0) (.k false) (.i (!(x_.Bd.Kind==0&&(x_.Bd.Int==0&&(x_.Bd.Text.toList==(ByteArray.mk #[]).toList&&true)))) (.k false) (.i (!(x_.Row.Table==0&&(x_.Row.Seq==0&&true))) (.k false) (.bn (zb x_.Ag) λr14=>.i (r14) (.k false) (.k false)))))))))))
def zjX (zb:yA->Bool×Bool) (zf:yC->Bool×Bool) (zd:yE->Bool×Bool) (zg:Wd->Bool×Bool) (x_:At):=(zcm zb zf zd zg x_).fin default
theorem zJ5 (zb:yA->Bool×Bool) (zf:yC->Bool×Bool) (zd:yE->Bool×Bool) (zg:Wd->Bool×Bool) (v_Row:RowID) (v_Args:yA) (v_Func:Int) (v_Items:yE) (v_Op:Int) (v_Bound:Value)  :zgv (zc1 zb zf zd zg) f66 (body f66) ⟨[.pure],[]⟩ [.pure (.agg (base.enc 67 (At.mk (Int.ofNat 0) v_Row v_Args v_Func v_Items v_Op v_Bound)))]=(zcm zb zf zd zg (At.mk (Int.ofNat 0) v_Row v_Args v_Func v_Items v_Op v_Bound)).ev noH (λr=>some (zYA r)) none:=by kernel_rfl
theorem zKX (zb:yA->Bool×Bool) (zf:yC->Bool×Bool) (zd:yE->Bool×Bool) (zg:Wd->Bool×Bool) (v_Row:RowID) (v_Args:yA) (v_Func:Int) (v_Items:yE) (v_Op:Int) (v_Bound:Value)  :zgv (zc1 zb zf zd zg) f66 (body f66) ⟨[.pure],[]⟩ [.pure (.agg (base.enc 67 (At.mk (Int.ofNat 1) v_Row v_Args v_Func v_Items v_Op v_Bound)))]=(zcm zb zf zd zg (At.mk (Int.ofNat 1) v_Row v_Args v_Func v_Items v_Op v_Bound)).ev noH (λr=>some (zYA r)) none:=by kernel_rfl
theorem zKo (zb:yA->Bool×Bool) (zf:yC->Bool×Bool) (zd:yE->Bool×Bool) (zg:Wd->Bool×Bool) (v_Row:RowID) (v_Args:yA) (v_Func:Int) (v_Items:yE) (v_Op:Int) (v_Bound:Value)  :zgv (zc1 zb zf zd zg) f66 (body f66) ⟨[.pure],[]⟩ [.pure (.agg (base.enc 67 (At.mk (Int.ofNat 2) v_Row v_Args v_Func v_Items v_Op v_Bound)))]=(zcm zb zf zd zg (At.mk (Int.ofNat 2) v_Row v_Args v_Func v_Items v_Op v_Bound)).ev noH (λr=>some (zYA r)) none:=by kernel_rfl
theorem zKm (zb:yA->Bool×Bool) (zf:yC->Bool×Bool) (zd:yE->Bool×Bool) (zg:Wd->Bool×Bool) (v_Row:RowID) (v_Args:yA) (v_Func:Int) (v_Items:yE) (v_Op:Int) (v_Bound:Value)  :zgv (zc1 zb zf zd zg) f66 (body f66) ⟨[.pure],[]⟩ [.pure (.agg (base.enc 67 (At.mk (Int.ofNat 3) v_Row v_Args v_Func v_Items v_Op v_Bound)))]=(zcm zb zf zd zg (At.mk (Int.ofNat 3) v_Row v_Args v_Func v_Items v_Op v_Bound)).ev noH (λr=>some (zYA r)) none:=by kernel_rfl
theorem zJ6 (zb:yA->Bool×Bool) (zf:yC->Bool×Bool) (zd:yE->Bool×Bool) (zg:Wd->Bool×Bool) (v_Row:RowID) (v_Args:yA) (v_Func:Int) (v_Items:yE) (v_Op:Int) (v_Bound:Value)  :zgv (zc1 zb zf zd zg) f66 (body f66) ⟨[.pure],[]⟩ [.pure (.agg (base.enc 67 (At.mk (Int.ofNat 4) v_Row v_Args v_Func v_Items v_Op v_Bound)))]=(zcm zb zf zd zg (At.mk (Int.ofNat 4) v_Row v_Args v_Func v_Items v_Op v_Bound)).ev noH (λr=>some (zYA r)) none:=by kernel_rfl
theorem zKD (zb:yA->Bool×Bool) (zf:yC->Bool×Bool) (zd:yE->Bool×Bool) (zg:Wd->Bool×Bool) (n:Nat) (v_Row:RowID) (v_Args:yA) (v_Func:Int) (v_Items:yE) (v_Op:Int) (v_Bound:Value)  :zgv (zc1 zb zf zd zg) f66 (body f66) ⟨[.pure],[]⟩ [.pure (.agg (base.enc 67 (At.mk (Int.ofNat (n+5)) v_Row v_Args v_Func v_Items v_Op v_Bound)))]=(zcm zb zf zd zg (At.mk (Int.ofNat (n+5)) v_Row v_Args v_Func v_Items v_Op v_Bound)).ev noH (λr=>some (zYA r)) none:=by kernel_rfl
theorem zKp (zb:yA->Bool×Bool) (zf:yC->Bool×Bool) (zd:yE->Bool×Bool) (zg:Wd->Bool×Bool) (n:Nat) (v_Row:RowID) (v_Args:yA) (v_Func:Int) (v_Items:yE) (v_Op:Int) (v_Bound:Value)  :zgv (zc1 zb zf zd zg) f66 (body f66) ⟨[.pure],[]⟩ [.pure (.agg (base.enc 67 (At.mk (Int.negSucc n) v_Row v_Args v_Func v_Items v_Op v_Bound)))]=(zcm zb zf zd zg (At.mk (Int.negSucc n) v_Row v_Args v_Func v_Items v_Op v_Bound)).ev noH (λr=>some (zYA r)) none:=by kernel_rfl
theorem zLL (zb:yA->Bool×Bool) (zf:yC->Bool×Bool) (zd:yE->Bool×Bool) (zg:Wd->Bool×Bool) (x_:At):zgv (zc1 zb zf zd zg) f66 (body f66) ⟨[.pure],[]⟩ [.pure (.agg (base.enc 67 x_))]=(zcm zb zf zd zg x_).ev noH (λr=>some (zYA r)) none:=by
 obtain ⟨v_Kind,v_Row,v_Args,v_Func,v_Items,v_Op,v_Bound⟩:=x_
 match v_Kind with
 | .ofNat 0=>exact zJ5 zb zf zd zg v_Row v_Args v_Func v_Items v_Op v_Bound 
 | .ofNat 1=>exact zKX zb zf zd zg v_Row v_Args v_Func v_Items v_Op v_Bound 
 | .ofNat 2=>exact zKo zb zf zd zg v_Row v_Args v_Func v_Items v_Op v_Bound 
 | .ofNat 3=>exact zKm zb zf zd zg v_Row v_Args v_Func v_Items v_Op v_Bound 
 | .ofNat 4=>exact zJ6 zb zf zd zg v_Row v_Args v_Func v_Items v_Op v_Bound 
 | .ofNat (n+5)=>exact zKD zb zf zd zg n v_Row v_Args v_Func v_Items v_Op v_Bound 
 | .negSucc n=>exact zKp zb zf zd zg n v_Row v_Args v_Func v_Items v_Op v_Bound 
theorem zJr (zb:yA->Bool×Bool) (zf:yC->Bool×Bool) (zd:yE->Bool×Bool) (zg:Wd->Bool×Bool) (zmY:SdP 126 (zcA zb)) (zgh:SdP 127 (zh3 zf)) (zoj:SdP 132 (zcV zd)) (zgd:SdP 133 (zdy zg)):SdP 66 (znw (zjX zb zf zd zg)):=
 z2F (cx':=(zc1 zb zf zd zg)) zGn zfi zbem (zi ⟨zvC,zhP,zmY,zgh,zBs,zx2,zC9,zwt,zoj,zgd,zo5,zBj,trivial⟩) call66 func66 (c:=body f66) (by kernel_rfl) (zCB (l:=[]) (by kernel_rfl) trivial) (sg:=⟨[.pure],[]⟩) (A:=zDM) (res:=zYA) (W:=λx=>zcm zb zf zd zg x.1) (z:=default) (λx=>zLL zb zf zd zg x.1) (λ_=>by kernel_rfl)
def zIy (zbU:yC->Bool×Bool):=zbl base 11 [(20,(zh3 zbU))]
def zx0 (zbU:yC->Bool×Bool) (a:yC):Wy0 (Bool):=.bn (zbU a) λr0=>.i (!r0) (.k true) (.k (Int.ofNat a.length==0))
def zkV (zbU:yC->Bool×Bool) (a:yC):=(zx0 zbU a).fin default
theorem zFX (zbU:yC->Bool×Bool) (zyo:SdP 20 (zh3 zbU)):SdP 127 (zh3 (zkV zbU)):=
 sT (cx':=(zIy zbU)) (zi ⟨zyo,trivial⟩) call127 func127 (lOK aN)
def zI4 (zbU:yC->Bool×Bool):=zbl base 13 [(20,(zh3 zbU))]
def zxL (zbU:yC->Bool×Bool) (w:Wd):Wy0 (Bool):=.bn (zbU w.Ann) λr0=>.i (!r0) (.k true) (.k (Int.ofNat w.Ann.length==0))
def zkX (zbU:yC->Bool×Bool) (w:Wd):=(zxL zbU w).fin default
theorem zF0 (zbU:yC->Bool×Bool) (zyo:SdP 20 (zh3 zbU)):SdP 133 (zdy (zkX zbU)):=
 sT (cx':=(zI4 zbU)) (zi ⟨zyo,trivial⟩) call133 func133 (lOK aN)
def zmo (zf:yC->Bool×Bool) (z7:yA->Bool×Int):=zbl base 9 [(127,(zh3 zf)),(161,(zcN z7))]
def zfx (zf:yC->Bool×Bool) (z7:yA->Bool×Int) (s:yA):Wy0 (Bool):=.bn (z7 s) λr0=>.k (decide (r0≥0))
def zcz (zf:yC->Bool×Bool) (z7:yA->Bool×Int) (s:yA):=(zfx zf z7 s).fin default
theorem zlg (zf:yC->Bool×Bool) (z7:yA->Bool×Int) (zgh:SdP 127 (zh3 zf)) (znZ:SdP 161 (zcN z7)):SdP 126 (zcA (zcz zf z7)):=
 sT (cx':=(zmo zf z7)) (zi ⟨zgh,znZ,trivial⟩) call126 func126 (lOK aN)
def znX (zg:Wd->Bool×Bool) (zbd:yE->Bool×Int):=zbl base 9 [(133,(zdy zg)),(163,(zdi zbd))]
def zgA (zg:Wd->Bool×Bool) (zbd:yE->Bool×Int) (s:yE):Wy0 (Bool):=.bn (zbd s) λr0=>.k (decide (r0≥0))
def zcP (zg:Wd->Bool×Bool) (zbd:yE->Bool×Int) (s:yE):=(zgA zg zbd s).fin default
theorem zmF (zg:Wd->Bool×Bool) (zbd:yE->Bool×Int) (zgd:SdP 133 (zdy zg)) (zpN:SdP 163 (zdi zbd)):SdP 132 (zcV (zcP zg zbd)):=
 sT (cx':=(znX zg zbd)) (zi ⟨zgd,zpN,trivial⟩) call132 func132 (lOK aN)
abbrev zda:=yA×Unit×Int×Int×Unit
def znz (zf:yC->Bool×Bool) (s:yA) (t7:Int) (t8:Int):Wy zda Unit (Int⊕Unit):=.i (decide (t8<t7)) (.i (decide (0<=t8)&&decide (t8<Int.ofNat s.length)) (.bn (zf (s.getD t8.toNat default)) λr0=>.i (r0) (.k (.inl t8)) (.h (s,(),t7,(IntKind.i64.wrap (t8+1)),()) ())) .d) (.k (.inr ()))
def zfZ (zf:yC->Bool×Bool) (x:zda) (y:Unit):=znz zf x.1 x.2.2.1 x.2.2.2.1
def znq (zf:yC->Bool×Bool) (n:Nat) (s:yA) (t7:Int) (t8:Int):=zy (zfZ zf) (.inl default) n (s,(),t7,t8,()) ()
def znp:LL ty zda:=za (lSl 23) (za (lFn 127 (zk)) (za zj (za zj zk)))
def zm9 (x:zda) (y:Unit):Nat:=(x.1.length+Int.toNat x.2.2.1+Int.toNat x.2.2.2.1+1)
def zf2 (zf:yC->Bool×Bool):=zbY base 19 [(127,(zh3 zf))] [] [(2,(kpL [0,1,7,8]))] [(2,1,[]),(2,0,(kpL [4]))] [(2,spW znp zbcZ (zfZ zf) (.inl default) zs0 zm9)] []
theorem zm1 (zf:yC->Bool×Bool):zA (zf2 zf) (lp (body f161) 0):=zp (id:=2) (hl:=rfl)
def znK (zf:yC->Bool×Bool) (s:yA):Wy0 (Int):=.bn (znq zf (s.length+(Int.ofNat s.length).toNat +Int.toNat 0+1) s (Int.ofNat s.length) 0) λr2=>.i (isL r2) (.k (getL r2)) (.k (-1:Int))
def zcK (zf:yC->Bool×Bool) (s:yA):=(znK zf s).fin default
theorem zmh (zf:yC->Bool×Bool) (zgh:SdP 127 (zh3 zf)):SdP 161 (zcN (zcK zf)):=
 sT (cx':=(zf2 zf)) (zi ⟨zgh,trivial⟩) call161 func161 (lOK (aC (zm1 zf) aN))
abbrev zdO:=yE×Unit×Int×Int×Unit
def zpu (zg:Wd->Bool×Bool) (s:yE) (t7:Int) (t8:Int):Wy zdO Unit (Int⊕Unit):=.i (decide (t8<t7)) (.i (decide (0<=t8)&&decide (t8<Int.ofNat s.length)) (.bn (zg (s.getD t8.toNat default)) λr0=>.i (r0) (.k (.inl t8)) (.h (s,(),t7,(IntKind.i64.wrap (t8+1)),()) ())) .d) (.k (.inr ()))
def zg0 (zg:Wd->Bool×Bool) (x:zdO) (y:Unit):=zpu zg x.1 x.2.2.1 x.2.2.2.1
def zpt (zg:Wd->Bool×Bool) (n:Nat) (s:yE) (t7:Int) (t8:Int):=zy (zg0 zg) (.inl default) n (s,(),t7,t8,()) ()
def zpC:LL ty zdO:=za (lSl 100) (za (lFn 133 (zk)) (za zj (za zj zk)))
def zoT (x:zdO) (y:Unit):Nat:=(x.1.length+Int.toNat x.2.2.1+Int.toNat x.2.2.2.1+1)
def zg5 (zg:Wd->Bool×Bool):=zbY base 19 [(133,(zdy zg))] [] [(2,(kpL [0,1,7,8]))] [(2,1,[]),(2,0,(kpL [4]))] [(2,spW zpC zbcZ (zg0 zg) (.inl default) zs0 zoT)] []
theorem zoW (zg:Wd->Bool×Bool):zA (zg5 zg) (lp (body f163) 0):=zp (id:=2) (hl:=rfl)
def zpU (zg:Wd->Bool×Bool) (s:yE):Wy0 (Int):=.bn (zpt zg (s.length+(Int.ofNat s.length).toNat +Int.toNat 0+1) s (Int.ofNat s.length) 0) λr2=>.i (isL r2) (.k (getL r2)) (.k (-1:Int))
def zdf (zg:Wd->Bool×Bool) (s:yE):=(zpU zg s).fin default
theorem znR (zg:Wd->Bool×Bool) (zgd:SdP 133 (zdy zg)):SdP 163 (zdi (zdf zg)):=
 sT (cx':=(zg5 zg)) (zi ⟨zgd,trivial⟩) call163 func163 (lOK (aC (zoW zg) aN))
def zeA:Nat->(yC->Bool×Bool)×(At->Bool×Bool)×(yC->Bool×Bool)×(Wd->Bool×Bool)×(yA->Bool×Int)×(yA->Bool×Bool)×(yE->Bool×Int)×(yE->Bool×Bool)
 | 0=>(λ_=>(false,default),λ_=>(false,default),λ_=>(false,default),λ_=>(false,default),λ_=>(false,default),λ_=>(false,default),λ_=>(false,default),λ_=>(false,default))
 | n+1=>(zn4 ((zeA n).2.1),zjX ((zeA n).2.2.2.2.2.1) ((zeA n).2.2.1) ((zeA n).2.2.2.2.2.2.2) ((zeA n).2.2.2.1),zkV ((zeA n).1),zkX ((zeA n).1),zcK ((zeA n).2.2.1),zcz ((zeA n).2.2.1) ((zeA n).2.2.2.2.1),zdf ((zeA n).2.2.2.1),zcP ((zeA n).2.2.2.1) ((zeA n).2.2.2.2.2.2.1))
def zkz (n:Nat):yC->Bool×Bool:=(zeA n).1
def znx (n:Nat):At->Bool×Bool:=(zeA n).2.1
def zfr (n:Nat):yC->Bool×Bool:=(zeA n).2.2.1
def zfn (n:Nat):Wd->Bool×Bool:=(zeA n).2.2.2.1
def zcM (n:Nat):yA->Bool×Int:=(zeA n).2.2.2.2.1
def zcy (n:Nat):yA->Bool×Bool:=(zeA n).2.2.2.2.2.1
def zde (n:Nat):yE->Bool×Int:=(zeA n).2.2.2.2.2.2.1
def zcS (n:Nat):yE->Bool×Bool:=(zeA n).2.2.2.2.2.2.2
theorem zVl (n:Nat):zkz (n+1)=zn4 (znx n):=rfl
theorem zNT (n:Nat):znx (n+1)=zjX (zcy n) (zfr n) (zcS n) (zfn n):=rfl
theorem zIP (n:Nat):zfr (n+1)=zkV (zkz n):=rfl
theorem zIV (n:Nat):zfn (n+1)=zkX (zkz n):=rfl
theorem zni (n:Nat):zcM (n+1)=zcK (zfr n):=rfl
theorem zmc (n:Nat):zcy (n+1)=zcz (zfr n) (zcM n):=rfl
theorem zps (n:Nat):zde (n+1)=zdf (zfn n):=rfl
theorem znI (n:Nat):zcS (n+1)=zcP (zfn n) (zde n):=rfl
theorem z5p:∀ n,SdP 20 (zh3 (zkz n))/\SdP 66 (znw (znx n))/\SdP 127 (zh3 (zfr n))/\SdP 133 (zdy (zfn n))/\SdP 161 (zcN (zcM n))/\SdP 126 (zcA (zcy n))/\SdP 163 (zdi (zde n))/\SdP 132 (zcV (zcS n))
 | 0=>⟨z8 call20 (λ_=>rfl),z8 call66 (λ_=>rfl),z8 call127 (λ_=>rfl),z8 call133 (λ_=>rfl),z8 call161 (λ_=>rfl),z8 call126 (λ_=>rfl),z8 call163 (λ_=>rfl),z8 call132 (λ_=>rfl)⟩
 | n+1=>by
  have ih:=z5p n;exact ⟨zPE _ (ih.2.1),zJr _ _ _ _ (ih.2.2.2.2.2.1) (ih.2.2.1) (ih.2.2.2.2.2.2.2) (ih.2.2.2.1),zFX _ (ih.1),zF0 _ (ih.1),zmh _ (ih.2.2.1),zlg _ _ (ih.2.2.1) (ih.2.2.2.2.1),znR _ (ih.2.2.2.1),zmF _ _ (ih.2.2.2.1) (ih.2.2.2.2.2.2.1)⟩
def zca:yC->Bool×Bool:=zkz 1000
def zch:Ab.Spec ty:=zh3 zca
theorem zco:SdP 20 zch:=(z5p 1000).1
def zSs (r:yC×Int):ARes ty:=⟨[.own 28 r.1,.pure (.lit (.int .i64 r.2))],[]⟩
def zV0:AL zbH (yC×((yG×Unit)×Unit)×Unit):=zc (ze (vSl 28)) (zc (ze (vFn 84 (zdA (zvh (zdA (vSl 51) zbT)) zbT))) zo)
def zlz (F:yC->yG->Bool×(yC×Int)):Ab.Spec ty:=zh zV0 λx=>((F x.1 x.2.1.1.1).1,zSs (F x.1 x.2.1.1.1).2)
def zPj:AL zbH (At×((yG×Unit)×Unit)×Unit):=zc (ze (zcl 67)) (zc (ze (vFn 84 (zdA (zvh (zdA (vSl 51) zbT)) zbT))) zo)
def zlJ (F:At->yG->Bool×(yC×Int)):Ab.Spec ty:=zh zPj λx=>((F x.1 x.2.1.1.1).1,zSs (F x.1 x.2.1.1.1).2)
def zGo (k:Go.Value) (l:List (Go.Value×Int)):Option Int:=zXl (ty:=ty) (V:=3) k l
def zbh0 (k:Go.Value) (l:List (Go.Value×Int)):Bool:=zLK (ty:=ty) (V:=3) k l
def zbhO (k:Go.Value) (x:Int) (l:List (Go.Value×Int)):List (Go.Value×Int):=zIR (ty:=ty) (V:=3) k x l
def zZx (r:ByteArray):ARes ty:=⟨[.pure (.lit (.string r))],[]⟩
def z3K:AL zbH (yC×Unit):=zc (ze (vSl 28)) zo
def zv5 (F:yC->Bool×ByteArray):Ab.Spec ty:=zh z3K λx=>((F x.1).1,zZx (F x.1).2)
def zQ0:AL zbH (At×Unit):=zc (ze (zcl 67)) zo
def zmA (F:At->Bool×ByteArray):Ab.Spec ty:=zh zQ0 λx=>((F x.1).1,zZx (F x.1).2)
def zL2:AL zbH (yD×Unit):=zc (ze (vSl 69)) zo
def zgD (F:yD->Bool×ByteArray):Ab.Spec ty:=zh zL2 λx=>((F x.1).1,zZx (F x.1).2)
def zQG:=zbl base 2 []
def zTy:Wy0 (List ByteArray):=.k [ByteArray.mk #[(67:UInt8),(79:UInt8),(85:UInt8),(78:UInt8),(84:UInt8)],ByteArray.mk #[(83:UInt8),(85:UInt8),(77:UInt8)],ByteArray.mk #[(77:UInt8),(73:UInt8),(78:UInt8)],ByteArray.mk #[(77:UInt8),(65:UInt8),(88:UInt8)]]
def zce:Bool×List ByteArray:=(zTy).fin default
def zOE (r:List ByteArray):ARes ty:=⟨[.own 9 r],[]⟩
def zSv:AL base (Unit):=zo
def zAH:=zh zSv λx=>((zce ).1,zOE (zce ).2)
theorem zL6:SdP 198 zAH:=
 sT (cx':=zQG) (zi trivial) call198 func198 (lOK aN) (sg:=⟨[.own 9],[]⟩)
def zQJ:=zbl base 2 []
def zSO:Wy0 (List ByteArray):=.k [ByteArray.mk #[(61:UInt8)],ByteArray.mk #[(60:UInt8),(62:UInt8)],ByteArray.mk #[(60:UInt8)],ByteArray.mk #[(60:UInt8),(61:UInt8)],ByteArray.mk #[(62:UInt8)],ByteArray.mk #[(62:UInt8),(61:UInt8)]]
def zdQ:Bool×List ByteArray:=(zSO).fin default
def zAP:=zh zSv λx=>((zdQ ).1,zOE (zdQ ).2)
theorem zLV:SdP 199 zAP:=
 sT (cx':=zQJ) (zi trivial) call199 func199 (lOK aN) (sg:=⟨[.own 9],[]⟩)
def strings_Join (l:List ByteArray) (sep:ByteArray):Bool×ByteArray:=z2W l sep
def zv0:Ab.Spec ty:=zh (cx:=zbH) (zc (ze (vSl 9)) (zc (ze zAl) zo)) λx=>((strings_Join x.1 x.2.1).1,⟨[.pure (.lit (.string (strings_Join x.1 x.2.1).2))],[]⟩)
theorem zBv:Sound Tryz.prog zbH 169 zv0:=zbid (T:=9) zQi rfl Go.Proofs.Tryz.lays156 Go.Proofs.Tryz.Builder_Extra_156 call169 (λs:ByteArray=>s) (λ_=>rfl) strings_Join (λl sep=>congrArg (λl=>z2W l sep) (List.map_id' (α:=ByteArray) l).symm)
def strconv_Itoa (x:Int):Bool×ByteArray:=zXB x
def zDy:Ab.Spec ty:=zh (cx:=base) (zc (ze (zgG .i64)) zo) λx=>((strconv_Itoa x.1).1,⟨[.pure (.lit (.string (strconv_Itoa x.1).2))],[]⟩)
theorem zKC:SdP 168 zDy:=zbhz zfi Go.Proofs.Tryz.laysM171 call168 (λ_ h=>h.1)
def z6z:=zbl base 15 [(128,zv4),(168,zDy)]
def zSa (id:RowID):Wy0 (ByteArray):=.bn (zrC id) λr2=>.i (!r2) (.k (ByteArray.mk #[])) (.bn (strconv_Itoa id.Table) λr1=>.i (decide ((ByteArray.mk #[(116:UInt8)]).size+r1.size<=9223372036854775807)) (.i (decide ((ByteArray.mk #[(116:UInt8)]++r1).size+(ByteArray.mk #[(46:UInt8)]).size<=9223372036854775807)) (.bn (strconv_Itoa id.Seq) λr0=>.i (decide ((ByteArray.mk #[(116:UInt8)]++r1++ByteArray.mk #[(46:UInt8)]).size+r0.size<=9223372036854775807)) (.k (ByteArray.mk #[(116:UInt8)]++r1++ByteArray.mk #[(46:UInt8)]++r0)) .d) .d) .d)
def zzP (id:RowID):=(zSa id).fin default
def zJS:=zh zbai λx=>((zzP x.1).1,zZx (zzP x.1).2)
theorem zZk:SdP 195 zJS:=
 sT (cx':=z6z) (zi ⟨zBs,zKC,trivial⟩) call195 func195 (lOK aN)
def zjs (m b:Int):Bool×ByteArray:=zyn m b
def zvy:Ab.Spec ty:=zh (cx:=base) (zc (ze (zgG .i64)) (zc (ze (zgG .i64)) zo)) λx=>((zjs x.1 x.2.1).1,⟨[.pure (.lit (.string (zjs x.1 x.2.1).2))],[]⟩)
theorem zCR:SdP 227 zvy:=z7W zfi Go.Proofs.Tryz.laysM173 call227 (λ_ h=>h.1)
end Go.Proofs.YtljlfiomikifjaaGreatDoor
end
