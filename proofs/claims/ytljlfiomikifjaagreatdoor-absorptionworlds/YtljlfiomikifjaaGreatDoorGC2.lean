/- Texts of this claim, joined (the program, its functions in plain words, and what they compute). -/
import Derived.Test.YtljlfiomikifjaaGreatDoorGC1
set_option autoImplicit false
set_option linter.unusedVariables false
set_option linter.unusedSectionVars false
set_option linter.unusedSimpArgs false
set_option maxRecDepth 1000000
set_option maxHeartbeats 0
noncomputable section
namespace Go.Proofs.YtljlfiomikifjaaGreatDoor
open Go Go.Ab
open Go.Proofs.Tryz
abbrev ztO:=Int×Unit×yC×Int×Int×yD×Int×Int×yA×Int×Int×Unit
abbrev zIW:=Int×yC×Int×Int×yD×Int×Int×Fc
abbrev ztt:=Int×yC×Int×Int×yD×Int×Int×yE×Int×Int×Unit
abbrev zIU:=Int×yC×Int×Int×yD×Int×Int
abbrev zty:=Int×yC×Int×Int×yD×Int×Int×Unit
abbrev zIO:=Int×yC×Int×Int
abbrev ztw:=Int×yC×Int×Int×Unit
def zkz (zu:yC->Bool×Int) (n_:Int) (t12:yC) (t13:Int) (t14:Int) (t25:yD) (t26:Int) (t27:Int) (t33:yA) (t34:Int) (t35:Int) (f:Fc):Wy ztO (Fc×Unit) zIW:=.i (decide (t35<t34)) (.i (decide (0<=t35)&&decide (t35<Int.ofNat t33.length)) (.bn (zu (t33.getD t35.toNat default)) λr0=>.h ((IntKind.i64.wrap (n_+r0)),(),t12,t13,t14,t25,t26,t27,t33,t34,(IntKind.i64.wrap (t35+1)),()) (f,())) .d) (.k (n_,t12,t13,t14,t25,t26,t27,f))
def zwk (zu:yC->Bool×Int) (x:ztO) (y:Fc×Unit):=zkz zu x.1 x.2.2.1 x.2.2.2.1 x.2.2.2.2.1 x.2.2.2.2.2.1 x.2.2.2.2.2.2.1 x.2.2.2.2.2.2.2.1 x.2.2.2.2.2.2.2.2.1 x.2.2.2.2.2.2.2.2.2.1 x.2.2.2.2.2.2.2.2.2.2.1 y.1
def zEM (zu:yC->Bool×Int) (n:Nat) (n_:Int) (t12:yC) (t13:Int) (t14:Int) (t25:yD) (t26:Int) (t27:Int) (t33:yA) (t34:Int) (t35:Int) (f:Fc):=zA (zwk zu) default n (n_,(),t12,t13,t14,t25,t26,t27,t33,t34,t35,()) (f,())
def zRJ (r:zIW):LTree ty:=.done (.exit 4) [.lit (.int .i64 r.1),.ptr 248 0,.sl 28 r.2.1,.lit (.int .i64 r.2.2.1),.lit (.int .i64 r.2.2.2.1),.sl 69 r.2.2.2.2.1,.lit (.int .i64 r.2.2.2.2.2.1),.lit (.int .i64 r.2.2.2.2.2.2.1)] [.box (base.enc 69 r.2.2.2.2.2.2.2) false]
def zUh:LL ty ztO:=za zj (za (zeb 248 0) (za (lSl 28) (za zj (za zj (za (lSl 69) (za zj (za zj (za (lSl 23) (za zj (za zj zk))))))))))
def zUN:BL ty (Fc×Unit):=zf8 (zeR (λx=>(⟨⟨x.1,⟨x.2.1,x.2.2.1⟩,x.2.2.2.1,x.2.2.2.2.1,x.2.2.2.2.2.1,x.2.2.2.2.2.2.1,⟨x.2.2.2.2.2.2.2.1,x.2.2.2.2.2.2.2.2.1,x.2.2.2.2.2.2.2.2.2.1⟩⟩,x.2.2.2.2.2.2.2.2.2.2.1⟩:Fc)) (λx=>(x.At.Kind,x.At.Row.Table,x.At.Row.Seq,x.At.Ag,x.At.Func,x.At.Items,x.At.Op,x.At.Bd.Kind,x.At.Bd.Int,x.At.Bd.Text,x.Exp,())) (λ_=>rfl) (za (zB .i64) (za (zB .i64) (za (zB .i64) (za (lSl 23) (za (zB .i64) (za (lSl 100) (za (zB .i64) (za (zB .i64) (za (zB .i64) (za zl4 (za (zB .i64) zk)))))))))))) false (z8)
def zkj (zu:yC->Bool×Int) (n_:Int) (t12:yC) (t13:Int) (t14:Int) (t25:yD) (t26:Int) (t27:Int) (t46:yE) (t47:Int) (t48:Int):Wy ztt Unit zIU:=.i (decide (t48<t47)) (.i (decide (0<=t48)&&decide (t48<Int.ofNat t46.length)) (.bn (zu (t46.getD t48.toNat default).Ann) λr2=>.h ((IntKind.i64.wrap (n_+IntKind.i64.wrap (1+r2))),t12,t13,t14,t25,t26,t27,t46,t47,(IntKind.i64.wrap (t48+1)),()) ()) .d) (.k (n_,t12,t13,t14,t25,t26,t27))
def zvF (zu:yC->Bool×Int) (x:ztt) (y:Unit):=zkj zu x.1 x.2.1 x.2.2.1 x.2.2.2.1 x.2.2.2.2.1 x.2.2.2.2.2.1 x.2.2.2.2.2.2.1 x.2.2.2.2.2.2.2.1 x.2.2.2.2.2.2.2.2.1 x.2.2.2.2.2.2.2.2.2.1
def zEI (zu:yC->Bool×Int) (n:Nat) (n_:Int) (t12:yC) (t13:Int) (t14:Int) (t25:yD) (t26:Int) (t27:Int) (t46:yE) (t47:Int) (t48:Int):=zA (zvF zu) default n (n_,t12,t13,t14,t25,t26,t27,t46,t47,t48,()) ()
def zSy (r:zIU):LTree ty:=.done (.exit 6) [.lit (.int .i64 r.1),.sl 28 r.2.1,.lit (.int .i64 r.2.2.1),.lit (.int .i64 r.2.2.2.1),.sl 69 r.2.2.2.2.1,.lit (.int .i64 r.2.2.2.2.2.1),.lit (.int .i64 r.2.2.2.2.2.2)] []
def zVc:LL ty ztt:=za zj (za (lSl 28) (za zj (za zj (za (lSl 69) (za zj (za zj (za (lSl 100) (za zj (za zj zk)))))))))
def zlJ (zu:yC->Bool×Int) (n_:Int) (t12:yC) (t13:Int) (t14:Int) (t25:yD) (t26:Int) (t27:Int):Wy zty Unit zIO:=.i (decide (t27<t26)) (.i (decide (0<=t27)&&decide (t27<Int.ofNat t25.length)) (.bn (zEM zu (n_.toNat +t12.length+t13.toNat +t14.toNat +t25.length+t26.toNat +t27.toNat +(t25.getD t27.toNat default).At.Ag.length+(Int.ofNat (t25.getD t27.toNat default).At.Ag.length).toNat +Int.toNat 0+(t25.getD t27.toNat default).At.Ag.length+(t25.getD t27.toNat default).At.Items.length+1) n_ t12 t13 t14 t25 t26 t27 (t25.getD t27.toNat default).At.Ag (Int.ofNat (t25.getD t27.toNat default).At.Ag.length) 0 (FO.mk (At.mk (t25.getD t27.toNat default).At.Kind (t25.getD t27.toNat default).At.Row (t25.getD t27.toNat default).At.Ag (t25.getD t27.toNat default).At.Func (t25.getD t27.toNat default).At.Items (t25.getD t27.toNat default).At.Op (t25.getD t27.toNat default).At.Bd) (t25.getD t27.toNat default).Exp)) λr5=>.bn (zEI zu (r5.1.toNat +r5.2.1.length+r5.2.2.1.toNat +r5.2.2.2.1.toNat +r5.2.2.2.2.1.length+r5.2.2.2.2.2.1.toNat +r5.2.2.2.2.2.2.1.toNat +r5.2.2.2.2.2.2.2.At.Items.length+(Int.ofNat r5.2.2.2.2.2.2.2.At.Items.length).toNat +Int.toNat 0+1) r5.1 r5.2.1 r5.2.2.1 r5.2.2.2.1 r5.2.2.2.2.1 r5.2.2.2.2.2.1 r5.2.2.2.2.2.2.1 r5.2.2.2.2.2.2.2.At.Items (Int.ofNat r5.2.2.2.2.2.2.2.At.Items.length) 0) λr4=>.h ((r4.1),(r4.2.1),(r4.2.2.1),(r4.2.2.2.1),(r4.2.2.2.2.1),(r4.2.2.2.2.2.1),(IntKind.i64.wrap (r4.2.2.2.2.2.2+1)),()) ()) .d) (.k (n_,t12,t13,t14))
def zxY (zu:yC->Bool×Int) (x:zty) (y:Unit):=zlJ zu x.1 x.2.1 x.2.2.1 x.2.2.2.1 x.2.2.2.2.1 x.2.2.2.2.2.1 x.2.2.2.2.2.2.1
def zFS (zu:yC->Bool×Int) (n:Nat) (n_:Int) (t12:yC) (t13:Int) (t14:Int) (t25:yD) (t26:Int) (t27:Int):=zA (zxY zu) default n (n_,t12,t13,t14,t25,t26,t27,()) ()
def zUk (r:zIO):LTree ty:=.done (.exit 2) [.lit (.int .i64 r.1),.sl 28 r.2.1,.lit (.int .i64 r.2.2.1),.lit (.int .i64 r.2.2.2)] []
def zW6:LL ty zty:=za zj (za (lSl 28) (za zj (za zj (za (lSl 69) (za zj (za zj zk))))))
def zlD (zu:yC->Bool×Int) (n_:Int) (t12:yC) (t13:Int) (t14:Int):Wy ztw Unit (Int):=.i (decide (t14<t13)) (.i (decide (0<=t14)&&decide (t14<Int.ofNat t12.length)) (.bn (zFS zu ((IntKind.i64.wrap (n_+IntKind.i64.wrap (1+Int.ofNat (t12.getD t14.toNat default).Fs.length))).toNat +t12.length+t13.toNat +t14.toNat +(t12.getD t14.toNat default).Fs.length+(Int.ofNat (t12.getD t14.toNat default).Fs.length).toNat +Int.toNat 0+1) (IntKind.i64.wrap (n_+IntKind.i64.wrap (1+Int.ofNat (t12.getD t14.toNat default).Fs.length))) t12 t13 t14 (t12.getD t14.toNat default).Fs (Int.ofNat (t12.getD t14.toNat default).Fs.length) 0) λr8=>.h ((r8.1),(r8.2.1),(r8.2.2.1),(IntKind.i64.wrap (r8.2.2.2+1)),()) ()) .d) (.k n_)
def zxC (zu:yC->Bool×Int) (x:ztw) (y:Unit):=zlD zu x.1 x.2.1 x.2.2.1 x.2.2.2.1
def zFc (zu:yC->Bool×Int) (n:Nat) (n_:Int) (t12:yC) (t13:Int) (t14:Int):=zA (zxC zu) default n (n_,t12,t13,t14,()) ()
def zTm (r:Int):LTree ty:=.done (.exit 0) [.lit (.int .i64 r)] []
def zV6:LL ty ztw:=za zj (za (lSl 28) (za zj (za zj zk)))
def zSj (x:ztO) (y:Fc×Unit):Nat:=(Int.toNat x.1+x.2.2.1.length+Int.toNat x.2.2.2.1+Int.toNat x.2.2.2.2.1+x.2.2.2.2.2.1.length+Int.toNat x.2.2.2.2.2.2.1+Int.toNat x.2.2.2.2.2.2.2.1+x.2.2.2.2.2.2.2.2.1.length+Int.toNat x.2.2.2.2.2.2.2.2.2.1+Int.toNat x.2.2.2.2.2.2.2.2.2.2.1+y.1.At.Ag.length+y.1.At.Items.length+1)
def zSP (x:ztt) (y:Unit):Nat:=(Int.toNat x.1+x.2.1.length+Int.toNat x.2.2.1+Int.toNat x.2.2.2.1+x.2.2.2.2.1.length+Int.toNat x.2.2.2.2.2.1+Int.toNat x.2.2.2.2.2.2.1+x.2.2.2.2.2.2.2.1.length+Int.toNat x.2.2.2.2.2.2.2.2.1+Int.toNat x.2.2.2.2.2.2.2.2.2.1+1)
def zTD (x:zty) (y:Unit):Nat:=(Int.toNat x.1+x.2.1.length+Int.toNat x.2.2.1+Int.toNat x.2.2.2.1+x.2.2.2.2.1.length+Int.toNat x.2.2.2.2.2.1+Int.toNat x.2.2.2.2.2.2.1+1)
def zT9 (x:ztw) (y:Unit):Nat:=(Int.toNat x.1+x.2.1.length+Int.toNat x.2.2.1+Int.toNat x.2.2.2.1+1)
def zk8 (zu:yC->Bool×Int):=zbY base 62 [(115,(zoP zu))] [] [(3,(kpL [3,12,13,14])),(7,(kpL [3,12,13,14,25,26,27])),(10,(kpL [3,7,12,13,14,25,26,27,33,34,35])),(15,(kpL [3,12,13,14,25,26,27,46,47,48]))] [(3,1,(kpL [3])),(7,3,(kpL [3,12,13,14])),(10,5,(kpL [3,7,12,13,14,25,26,27])),(15,7,(kpL [3,12,13,14,25,26,27]))] [(10,spW zUh zUN (zwk zu) default zRJ zSj),(15,spW zVc zbc9 (zvF zu) default zSy zSP),(7,spW zW6 zbc9 (zxY zu) default zUk zTD),(3,spW zV6 zbc9 (zxC zu) default zTm zT9)] []
theorem zSL (zu:yC->Bool×Int):zy (zk8 zu) (lp (body f115) 2):=zm (id:=10) (hl:=rfl)
theorem zRz (zu:yC->Bool×Int):zy (zk8 zu) (lp (body f115) 3):=zm (id:=15) (hl:=rfl)
theorem zUP (zu:yC->Bool×Int):zy (zk8 zu) (lp (body f115) 1):=zm (id:=7) (hl:=rfl)
theorem zTM (zu:yC->Bool×Int):zy (zk8 zu) (lp (body f115) 0):=zm (id:=3) (hl:=rfl)
def zGI (zu:yC->Bool×Int) (a:yC):Wy0 (Int):=.bn (zFc zu (Int.toNat 0+a.length+(Int.ofNat a.length).toNat +Int.toNat 0+1) 0 a (Int.ofNat a.length) 0) λr10=>.k r10
def zvl (zu:yC->Bool×Int) (a:yC):=(zGI zu a).fin default
theorem zPQ (zu:yC->Bool×Int) (zYN:SdP 115 (zoP zu)):SdP 115 (zoP (zvl zu)):=
 sT (cx':=(zk8 zu)) (zi ⟨zYN,trivial⟩) call115 func115 (lOK (aC (zTM zu) (aC (zUP zu) (aC (zSL zu) (aC (zRz zu) aN)))))
def zbeA:Nat->(yC->Bool×Int)
 | 0=>λ_=>(false,default)
 | n+1=>zvl (zbeA n)
def zlO (n:Nat):yC->Bool×Int:=zbeA n
theorem zVA (n:Nat):zlO (n+1)=zvl (zlO n):=rfl
theorem zban:∀ n,SdP 115 (zoP (zlO n))
 | 0=>zba call115 (λ_=>rfl)
 | n+1=>by
  have ih:=zban n;exact zPQ _ (ih)
def zGg:yC->Bool×Int:=zlO 1000
def zFu:Ab.Spec ty:=zoP zGg
theorem zUq:SdP 115 zFu:=(zban 1000)
abbrev zn2:=Int×Unit×Int×yC×Int×Int×yD×Int×Int×yA×Int×Int×Unit
abbrev zEo:=Int×Int×yC×Int×Int×yD×Int×Int×Fc
abbrev zn8:=Int×Int×yC×Int×Int×yD×Int×Int×yE×Int×Int×Unit
abbrev zED:=Int×Int×yC×Int×Int×yD×Int×Int
abbrev zn7:=Int×yC×Int×Int×yD×Int×Int×Unit
abbrev zEa:=Int×yC×Int×Int
abbrev znY:=Int×yC×Int×Int×Unit
def zid (zn:yC->Bool×Int) (n_:Int) (inner:Int) (t13:yC) (t14:Int) (t15:Int) (t20:yD) (t21:Int) (t22:Int) (t32:yA) (t33:Int) (t34:Int) (f:Fc):Wy zn2 (Fc×Unit) zEo:=.i (decide (t34<t33)) (.i (decide (0<=t34)&&decide (t34<Int.ofNat t32.length)) (.bn (zn (t32.getD t34.toNat default)) λr0=>.h (n_,(),(if r0>inner then r0 else inner),t13,t14,t15,t20,t21,t22,t32,t33,(IntKind.i64.wrap (t34+1)),()) (f,())) .d) (.k (n_,inner,t13,t14,t15,t20,t21,t22,f))
def zrq (zn:yC->Bool×Int) (x:zn2) (y:Fc×Unit):=zid zn x.1 x.2.2.1 x.2.2.2.1 x.2.2.2.2.1 x.2.2.2.2.2.1 x.2.2.2.2.2.2.1 x.2.2.2.2.2.2.2.1 x.2.2.2.2.2.2.2.2.1 x.2.2.2.2.2.2.2.2.2.1 x.2.2.2.2.2.2.2.2.2.2.1 x.2.2.2.2.2.2.2.2.2.2.2.1 y.1
def zAF (zn:yC->Bool×Int) (n:Nat) (n_:Int) (inner:Int) (t13:yC) (t14:Int) (t15:Int) (t20:yD) (t21:Int) (t22:Int) (t32:yA) (t33:Int) (t34:Int) (f:Fc):=zA (zrq zn) default n (n_,(),inner,t13,t14,t15,t20,t21,t22,t32,t33,t34,()) (f,())
def zM3 (r:zEo):LTree ty:=.done (.exit 4) [.lit (.int .i64 r.1),.ptr 256 0,.lit (.int .i64 r.2.1),.sl 28 r.2.2.1,.lit (.int .i64 r.2.2.2.1),.lit (.int .i64 r.2.2.2.2.1),.sl 69 r.2.2.2.2.2.1,.lit (.int .i64 r.2.2.2.2.2.2.1),.lit (.int .i64 r.2.2.2.2.2.2.2.1)] [.box (base.enc 69 r.2.2.2.2.2.2.2.2) false]
def zPe:LL ty zn2:=za zj (za (zeb 256 0) (za zj (za (lSl 28) (za zj (za zj (za (lSl 69) (za zj (za zj (za (lSl 23) (za zj (za zj zk)))))))))))
def zh4 (zn:yC->Bool×Int) (n_:Int) (inner:Int) (t13:yC) (t14:Int) (t15:Int) (t20:yD) (t21:Int) (t22:Int) (t45:yE) (t46:Int) (t47:Int):Wy zn8 Unit zED:=.i (decide (t47<t46)) (.i (decide (0<=t47)&&decide (t47<Int.ofNat t45.length)) (.bn (zn (t45.getD t47.toNat default).Ann) λr2=>.h (n_,(if r2>inner then r2 else inner),t13,t14,t15,t20,t21,t22,t45,t46,(IntKind.i64.wrap (t47+1)),()) ()) .d) (.k (n_,inner,t13,t14,t15,t20,t21,t22))
def zq1 (zn:yC->Bool×Int) (x:zn8) (y:Unit):=zh4 zn x.1 x.2.1 x.2.2.1 x.2.2.2.1 x.2.2.2.2.1 x.2.2.2.2.2.1 x.2.2.2.2.2.2.1 x.2.2.2.2.2.2.2.1 x.2.2.2.2.2.2.2.2.1 x.2.2.2.2.2.2.2.2.2.1 x.2.2.2.2.2.2.2.2.2.2.1
def zBc (zn:yC->Bool×Int) (n:Nat) (n_:Int) (inner:Int) (t13:yC) (t14:Int) (t15:Int) (t20:yD) (t21:Int) (t22:Int) (t45:yE) (t46:Int) (t47:Int):=zA (zq1 zn) default n (n_,inner,t13,t14,t15,t20,t21,t22,t45,t46,t47,()) ()
def zNb (r:zED):LTree ty:=.done (.exit 6) [.lit (.int .i64 r.1),.lit (.int .i64 r.2.1),.sl 28 r.2.2.1,.lit (.int .i64 r.2.2.2.1),.lit (.int .i64 r.2.2.2.2.1),.sl 69 r.2.2.2.2.2.1,.lit (.int .i64 r.2.2.2.2.2.2.1),.lit (.int .i64 r.2.2.2.2.2.2.2)] []
def zNF:LL ty zn8:=za zj (za zj (za (lSl 28) (za zj (za zj (za (lSl 69) (za zj (za zj (za (lSl 100) (za zj (za zj zk))))))))))
def zjf (zn:yC->Bool×Int) (n_:Int) (t13:yC) (t14:Int) (t15:Int) (t20:yD) (t21:Int) (t22:Int):Wy zn7 Unit zEa:=.i (decide (t22<t21)) (.i (decide (0<=t22)&&decide (t22<Int.ofNat t20.length)) (.i ((t20.getD t22.toNat default).At.Kind==0) (.h (n_,t13,t14,t15,t20,t21,(IntKind.i64.wrap (t22+1)),()) ()) (.bn (zAF zn (n_.toNat +Int.toNat 0+t13.length+t14.toNat +t15.toNat +t20.length+t21.toNat +t22.toNat +(t20.getD t22.toNat default).At.Ag.length+(Int.ofNat (t20.getD t22.toNat default).At.Ag.length).toNat +Int.toNat 0+(t20.getD t22.toNat default).At.Ag.length+(t20.getD t22.toNat default).At.Items.length+1) n_ 0 t13 t14 t15 t20 t21 t22 (t20.getD t22.toNat default).At.Ag (Int.ofNat (t20.getD t22.toNat default).At.Ag.length) 0 (FO.mk (At.mk (t20.getD t22.toNat default).At.Kind (t20.getD t22.toNat default).At.Row (t20.getD t22.toNat default).At.Ag (t20.getD t22.toNat default).At.Func (t20.getD t22.toNat default).At.Items (t20.getD t22.toNat default).At.Op (t20.getD t22.toNat default).At.Bd) (t20.getD t22.toNat default).Exp)) λr5=>.bn (zBc zn (r5.1.toNat +r5.2.1.toNat +r5.2.2.1.length+r5.2.2.2.1.toNat +r5.2.2.2.2.1.toNat +r5.2.2.2.2.2.1.length+r5.2.2.2.2.2.2.1.toNat +r5.2.2.2.2.2.2.2.1.toNat +r5.2.2.2.2.2.2.2.2.At.Items.length+(Int.ofNat r5.2.2.2.2.2.2.2.2.At.Items.length).toNat +Int.toNat 0+1) r5.1 r5.2.1 r5.2.2.1 r5.2.2.2.1 r5.2.2.2.2.1 r5.2.2.2.2.2.1 r5.2.2.2.2.2.2.1 r5.2.2.2.2.2.2.2.1 r5.2.2.2.2.2.2.2.2.At.Items (Int.ofNat r5.2.2.2.2.2.2.2.2.At.Items.length) 0) λr4=>.h ((if IntKind.i64.wrap (1+r4.2.1)>r4.1 then IntKind.i64.wrap (1+r4.2.1) else r4.1),(r4.2.2.1),(r4.2.2.2.1),(r4.2.2.2.2.1),(r4.2.2.2.2.2.1),(r4.2.2.2.2.2.2.1),(IntKind.i64.wrap (r4.2.2.2.2.2.2.2+1)),()) ())) .d) (.k (n_,t13,t14,t15))
def zsX (zn:yC->Bool×Int) (x:zn7) (y:Unit):=zjf zn x.1 x.2.1 x.2.2.1 x.2.2.2.1 x.2.2.2.2.1 x.2.2.2.2.2.1 x.2.2.2.2.2.2.1
def zB3 (zn:yC->Bool×Int) (n:Nat) (n_:Int) (t13:yC) (t14:Int) (t15:Int) (t20:yD) (t21:Int) (t22:Int):=zA (zsX zn) default n (n_,t13,t14,t15,t20,t21,t22,()) ()
def zOH (r:zEa):LTree ty:=.done (.exit 2) [.lit (.int .i64 r.1),.sl 28 r.2.1,.lit (.int .i64 r.2.2.1),.lit (.int .i64 r.2.2.2)] []
def zPN:LL ty zn7:=za zj (za (lSl 28) (za zj (za zj (za (lSl 69) (za zj (za zj zk))))))
def zjh (zn:yC->Bool×Int) (n_:Int) (t13:yC) (t14:Int) (t15:Int):Wy znY Unit (Int):=.i (decide (t15<t14)) (.i (decide (0<=t15)&&decide (t15<Int.ofNat t13.length)) (.bn (zB3 zn (n_.toNat +t13.length+t14.toNat +t15.toNat +(t13.getD t15.toNat default).Fs.length+(Int.ofNat (t13.getD t15.toNat default).Fs.length).toNat +Int.toNat 0+1) n_ t13 t14 t15 (t13.getD t15.toNat default).Fs (Int.ofNat (t13.getD t15.toNat default).Fs.length) 0) λr8=>.h ((r8.1),(r8.2.1),(r8.2.2.1),(IntKind.i64.wrap (r8.2.2.2+1)),()) ()) .d) (.k n_)
def zss (zn:yC->Bool×Int) (x:znY) (y:Unit):=zjh zn x.1 x.2.1 x.2.2.1 x.2.2.2.1
def zCa (zn:yC->Bool×Int) (n:Nat) (n_:Int) (t13:yC) (t14:Int) (t15:Int):=zA (zss zn) default n (n_,t13,t14,t15,()) ()
def zQf:LL ty znY:=za zj (za (lSl 28) (za zj (za zj zk)))
def zMU (x:zn2) (y:Fc×Unit):Nat:=(Int.toNat x.1+Int.toNat x.2.2.1+x.2.2.2.1.length+Int.toNat x.2.2.2.2.1+Int.toNat x.2.2.2.2.2.1+x.2.2.2.2.2.2.1.length+Int.toNat x.2.2.2.2.2.2.2.1+Int.toNat x.2.2.2.2.2.2.2.2.1+x.2.2.2.2.2.2.2.2.2.1.length+Int.toNat x.2.2.2.2.2.2.2.2.2.2.1+Int.toNat x.2.2.2.2.2.2.2.2.2.2.2.1+y.1.At.Ag.length+y.1.At.Items.length+1)
def zMJ (x:zn8) (y:Unit):Nat:=(Int.toNat x.1+Int.toNat x.2.1+x.2.2.1.length+Int.toNat x.2.2.2.1+Int.toNat x.2.2.2.2.1+x.2.2.2.2.2.1.length+Int.toNat x.2.2.2.2.2.2.1+Int.toNat x.2.2.2.2.2.2.2.1+x.2.2.2.2.2.2.2.2.1.length+Int.toNat x.2.2.2.2.2.2.2.2.2.1+Int.toNat x.2.2.2.2.2.2.2.2.2.2.1+1)
def zOx (x:zn7) (y:Unit):Nat:=(Int.toNat x.1+x.2.1.length+Int.toNat x.2.2.1+Int.toNat x.2.2.2.1+x.2.2.2.2.1.length+Int.toNat x.2.2.2.2.2.1+Int.toNat x.2.2.2.2.2.2.1+1)
def zNT (x:znY) (y:Unit):Nat:=(Int.toNat x.1+x.2.1.length+Int.toNat x.2.2.1+Int.toNat x.2.2.2.1+1)
def zjc (zn:yC->Bool×Int):=zbY base 64 [(114,(zoP zn))] [] [(3,(kpL [3,13,14,15])),(6,(kpL [3,13,14,15,20,21,22])),(11,(kpL [3,7,8,13,14,15,20,21,22,32,33,34])),(16,(kpL [3,8,13,14,15,20,21,22,45,46,47]))] [(3,1,(kpL [3])),(6,3,(kpL [3,13,14,15])),(11,5,(kpL [3,7,8,13,14,15,20,21,22])),(16,7,(kpL [3,8,13,14,15,20,21,22]))] [(11,spW zPe zUN (zrq zn) default zM3 zMU),(16,spW zNF zbc9 (zq1 zn) default zNb zMJ),(6,spW zPN zbc9 (zsX zn) default zOH zOx),(3,spW zQf zbc9 (zss zn) default zTm zNT)] []
theorem zMN (zn:yC->Bool×Int):zy (zjc zn) (lp (body f114) 2):=zm (id:=11) (hl:=rfl)
theorem zL7 (zn:yC->Bool×Int):zy (zjc zn) (lp (body f114) 3):=zm (id:=16) (hl:=rfl)
theorem zOZ (zn:yC->Bool×Int):zy (zjc zn) (lp (body f114) 1):=zm (id:=6) (hl:=rfl)
theorem zNC (zn:yC->Bool×Int):zy (zjc zn) (lp (body f114) 0):=zm (id:=3) (hl:=rfl)
def zDk (zn:yC->Bool×Int) (a:yC):Wy0 (Int):=.bn (zCa zn (Int.toNat 0+a.length+(Int.ofNat a.length).toNat +Int.toNat 0+1) 0 a (Int.ofNat a.length) 0) λr10=>.k r10
def zpZ (zn:yC->Bool×Int) (a:yC):=(zDk zn a).fin default
theorem zKf (zn:yC->Bool×Int) (zSv:SdP 114 (zoP zn)):SdP 114 (zoP (zpZ zn)):=
 sT (cx':=(zjc zn)) (zi ⟨zSv,trivial⟩) call114 func114 (lOK (aC (zNC zn) (aC (zOZ zn) (aC (zMN zn) (aC (zL7 zn) aN)))))
def z5L:Nat->(yC->Bool×Int)
 | 0=>λ_=>(false,default)
 | n+1=>zpZ (z5L n)
def zgz (n:Nat):yC->Bool×Int:=z5L n
theorem zPA (n:Nat):zgz (n+1)=zpZ (zgz n):=rfl
theorem zXI:∀ n,SdP 114 (zoP (zgz n))
 | 0=>zba call114 (λ_=>rfl)
 | n+1=>by
  have ih:=zXI n;exact zKf _ (ih)
def zAy:yC->Bool×Int:=zgz 1000
def zCl:Ab.Spec ty:=zoP zAy
theorem zOS:SdP 114 zCl:=(zXI 1000)
def zKq:=zbt base 13 []
def zzx (f:Fc):Wy0 (Bool):=.i (decide (f.Exp>64)) (.k true) (.k (decide (Int.ofNat f.At.Items.length>1024)))
def zgp (f:Fc):=(zzx f).fin default
def zMr:AL base (Fc×Unit):=zc (ze (zcy 69)) zo
def ziS:=zh zMr λx=>((zgp x.1).1,zZL (zgp x.1).2)
theorem zl3:SdP 117 ziS:=
 sT (cx':=zKq) (zi trivial) call117 func117 (lOK aN)
abbrev zek:=yD×Unit×Int×Int×Unit
def zjI (s:yD) (t7:Int) (t8:Int):Wy zek Unit (Int⊕Unit):=.i (decide (t8<t7)) (.i (decide (0<=t8)&&decide (t8<Int.ofNat s.length)) (.bn (zgp (FO.mk (At.mk (s.getD t8.toNat default).At.Kind (s.getD t8.toNat default).At.Row (s.getD t8.toNat default).At.Ag (s.getD t8.toNat default).At.Func (s.getD t8.toNat default).At.Items (s.getD t8.toNat default).At.Op (s.getD t8.toNat default).At.Bd) (s.getD t8.toNat default).Exp)) λr0=>.i (r0) (.k (.inl t8)) (.h (s,(),t7,(IntKind.i64.wrap (t8+1)),()) ())) .d) (.k (.inr ()))
def zdH (x:zek) (y:Unit):=zjI x.1 x.2.2.1 x.2.2.2.1
def zjv (n:Nat) (s:yD) (t7:Int) (t8:Int):=zA (zdH) (.inl default) n (s,(),t7,t8,()) ()
def zsU (r:Int⊕Unit):LTree ty:=.ite (isL r) (.done .ret [.lit (.int .i64 (getL r))] []) (.done (.exit 0) [] [])
def ztA:LL ty zek:=za (lSl 69) (za (lFn 117 (zk)) (za zj (za zj zk)))
def zsB (x:zek) (y:Unit):Nat:=(x.1.length+Int.toNat x.2.2.1+Int.toNat x.2.2.2.1+1)
def zjC:=zbY base 19 [(117,ziS)] [] [(2,(kpL [0,1,7,8]))] [(2,1,[]),(2,0,(kpL [4]))] [(2,spW ztA zbc9 (zdH) (.inl default) zsU zsB)] []
theorem zsv:zy zjC (lp (body f103) 0):=zm (id:=2) (hl:=rfl)
def zjR (s:yD):Wy0 (Int):=.bn (zjv (s.length+(Int.ofNat s.length).toNat +Int.toNat 0+1) s (Int.ofNat s.length) 0) λr2=>.i (isL r2) (.k (getL r2)) (.k (-1:Int))
def zc1 (s:yD):=(zjR s).fin default
def zuZ:AL base (yD×Unit×Unit):=zc (ze (vSl 69)) (zc (ze (vFn 117 zb4)) zo)
def ziC:=zh zuZ λx=>((zc1 x.1).1,zRZ (zc1 x.1).2)
theorem zqT:SdP 103 ziC:=
 sT (cx':=zjC) (zi ⟨zl3,trivial⟩) call103 func103 (lOK (aC zsv aN))
def zqR:=zbt base 9 [(103,ziC),(117,ziS)]
def ziA (s:yD):Wy0 (Bool):=.bn (zc1 s) λr0=>.k (decide (r0≥0))
def zcF (s:yD):=(ziA s).fin default
def zhw:=zh zuZ λx=>((zcF x.1).1,zZL (zcF x.1).2)
theorem zoU:SdP 49 zhw:=
 sT (cx':=zqR) (zi ⟨zqT,zl3,trivial⟩) call49 func49 (lOK aN)
def zQa:=zbt base 12 [(49,zhw),(117,ziS)]
def zC3 (t:Term):Wy0 (Bool):=.i (decide (Int.ofNat t.Fs.length>64)) (.k true) (.bn (zcF t.Fs) λr0=>.k r0)
def zk4 (t:Term):=(zC3 t).fin default
def zSh:AL base (Term×Unit):=zc (ze (zcy 28)) zo
def zkI:=zh zSh λx=>((zk4 x.1).1,zZL (zk4 x.1).2)
theorem zoo:SdP 116 zkI:=
 sT (cx':=zQa) (zi ⟨zoU,zl3,trivial⟩) call116 func116 (lOK aN)
abbrev zef:=yC×Unit×Int×Int×Unit
def zsD (s:yC) (t7:Int) (t8:Int):Wy zef Unit (Int⊕Unit):=.i (decide (t8<t7)) (.i (decide (0<=t8)&&decide (t8<Int.ofNat s.length)) (.bn (zk4 (s.getD t8.toNat default)) λr0=>.i (r0) (.k (.inl t8)) (.h (s,(),t7,(IntKind.i64.wrap (t8+1)),()) ())) .d) (.k (.inr ()))
def zjg (x:zef) (y:Unit):=zsD x.1 x.2.2.1 x.2.2.2.1
def zsY (n:Nat) (s:yC) (t7:Int) (t8:Int):=zA (zjg) (.inl default) n (s,(),t7,t8,()) ()
def zsu:LL ty zef:=za (lSl 28) (za (lFn 116 (zk)) (za zj (za zj zk)))
def zse (x:zef) (y:Unit):Nat:=(x.1.length+Int.toNat x.2.2.1+Int.toNat x.2.2.2.1+1)
def zi2:=zbY base 19 [(116,zkI)] [] [(2,(kpL [0,1,7,8]))] [(2,1,[]),(2,0,(kpL [4]))] [(2,spW zsu zbc9 (zjg) (.inl default) zsU zse)] []
theorem zrQ:zy zi2 (lp (body f113) 0):=zm (id:=2) (hl:=rfl)
def zub (s:yC):Wy0 (Int):=.bn (zsY (s.length+(Int.ofNat s.length).toNat +Int.toNat 0+1) s (Int.ofNat s.length) 0) λr2=>.i (isL r2) (.k (getL r2)) (.k (-1:Int))
def zdY (s:yC):=(zub s).fin default
def ztu:AL base (yC×Unit×Unit):=zc (ze (vSl 28)) (zc (ze (vFn 116 zb4)) zo)
def zim:=zh ztu λx=>((zdY x.1).1,zRZ (zdY x.1).2)
theorem zqc:SdP 113 zim:=
 sT (cx':=zi2) (zi ⟨zoo,trivial⟩) call113 func113 (lOK (aC zrQ aN))
def zqu:=zbt base 9 [(113,zim),(116,zkI)]
def zhZ (s:yC):Wy0 (Bool):=.bn (zdY s) λr0=>.k (decide (r0≥0))
def zcz (s:yC):=(zhZ s).fin default
def zg8:=zh ztu λx=>((zcz x.1).1,zZL (zcz x.1).2)
theorem zoj:SdP 59 zg8:=
 sT (cx':=zqu) (zi ⟨zqc,zoo,trivial⟩) call59 func59 (lOK aN)
def zWG:=zbt base 19 [(59,zg8),(114,zCl),(115,zFu),(116,zkI)]
def zGJ (a:yC):Wy0 (Bool):=.i (decide (Int.ofNat a.length>512)) (.k false) (.bn (zAy a) λr2=>.i (decide (r2>8)) (.k false) (.bn (zGg a) λr1=>.i (decide (r1>4096)) (.k false) (.bn (zcz a) λr0=>.k (!r0))))
def zlP (a:yC):=(zGJ a).fin default
def zuy:=zh z0t λx=>((zlP x.1).1,zZL (zlP x.1).2)
theorem zCb:SdP 62 zuy:=
 sT (cx':=zWG) (zi ⟨zoj,zOS,zUq,zoo,trivial⟩) call62 func62 (lOK aN)
abbrev zrF:=yC×Unit×yC×Int×Int×yD×Int×Int×Unit
abbrev zGV:=Bool⊕(yC×yC×Int×Int)
abbrev zrM:=yC×yC×Int×Int×Unit
def zkk (zG:At->Bool×Bool) (a:yC) (t10:yC) (t11:Int) (t12:Int) (t40:yD) (t41:Int) (t42:Int) (t:Term):Wy zrF (Term×Unit) zGV:=.i (decide (t42<t41)) (.i (decide (0<=t42)&&decide (t42<Int.ofNat t40.length)) (.i (decide ((t40.getD t42.toNat default).Exp<1)) (.k (.inl false)) (.bn (zfX (At.mk (t40.getD t42.toNat default).At.Kind (t40.getD t42.toNat default).At.Row (t40.getD t42.toNat default).At.Ag (t40.getD t42.toNat default).At.Func (t40.getD t42.toNat default).At.Items (t40.getD t42.toNat default).At.Op (t40.getD t42.toNat default).At.Bd)) λr6=>.i (r6) (.i ((t40.getD t42.toNat default).Exp != 1) (.k (.inl false)) (.i (decide (t42>0)) (.i (decide (0<=IntKind.i64.wrap (t42 - 1))&&decide (IntKind.i64.wrap (t42 - 1)<Int.ofNat t.Fs.length)) (.bn (zi8 (At.mk (t.Fs.getD (IntKind.i64.wrap (t42 - 1)).toNat default).At.Kind (t.Fs.getD (IntKind.i64.wrap (t42 - 1)).toNat default).At.Row (t.Fs.getD (IntKind.i64.wrap (t42 - 1)).toNat default).At.Ag (t.Fs.getD (IntKind.i64.wrap (t42 - 1)).toNat default).At.Func (t.Fs.getD (IntKind.i64.wrap (t42 - 1)).toNat default).At.Items (t.Fs.getD (IntKind.i64.wrap (t42 - 1)).toNat default).At.Op (t.Fs.getD (IntKind.i64.wrap (t42 - 1)).toNat default).At.Bd) (At.mk (t40.getD t42.toNat default).At.Kind (t40.getD t42.toNat default).At.Row (t40.getD t42.toNat default).At.Ag (t40.getD t42.toNat default).At.Func (t40.getD t42.toNat default).At.Items (t40.getD t42.toNat default).At.Op (t40.getD t42.toNat default).At.Bd)) λr1=>.i (decide (r1≥0)) (.k (.inl false)) (.bn (zG (At.mk (t40.getD t42.toNat default).At.Kind (t40.getD t42.toNat default).At.Row (t40.getD t42.toNat default).At.Ag (t40.getD t42.toNat default).At.Func (t40.getD t42.toNat default).At.Items (t40.getD t42.toNat default).At.Op (t40.getD t42.toNat default).At.Bd)) λr0=>.i (!r0) (.k (.inl false)) (.h (a,(),t10,t11,t12,t40,t41,(IntKind.i64.wrap (t42+1)),()) (t,())))) .d) (.bn (zG (At.mk (t40.getD t42.toNat default).At.Kind (t40.getD t42.toNat default).At.Row (t40.getD t42.toNat default).At.Ag (t40.getD t42.toNat default).At.Func (t40.getD t42.toNat default).At.Items (t40.getD t42.toNat default).At.Op (t40.getD t42.toNat default).At.Bd)) λr2=>.i (!r2) (.k (.inl false)) (.h (a,(),t10,t11,t12,t40,t41,(IntKind.i64.wrap (t42+1)),()) (t,()))))) (.i (decide (t42>0)) (.i (decide (0<=IntKind.i64.wrap (t42 - 1))&&decide (IntKind.i64.wrap (t42 - 1)<Int.ofNat t.Fs.length)) (.bn (zi8 (At.mk (t.Fs.getD (IntKind.i64.wrap (t42 - 1)).toNat default).At.Kind (t.Fs.getD (IntKind.i64.wrap (t42 - 1)).toNat default).At.Row (t.Fs.getD (IntKind.i64.wrap (t42 - 1)).toNat default).At.Ag (t.Fs.getD (IntKind.i64.wrap (t42 - 1)).toNat default).At.Func (t.Fs.getD (IntKind.i64.wrap (t42 - 1)).toNat default).At.Items (t.Fs.getD (IntKind.i64.wrap (t42 - 1)).toNat default).At.Op (t.Fs.getD (IntKind.i64.wrap (t42 - 1)).toNat default).At.Bd) (At.mk (t40.getD t42.toNat default).At.Kind (t40.getD t42.toNat default).At.Row (t40.getD t42.toNat default).At.Ag (t40.getD t42.toNat default).At.Func (t40.getD t42.toNat default).At.Items (t40.getD t42.toNat default).At.Op (t40.getD t42.toNat default).At.Bd)) λr4=>.i (decide (r4≥0)) (.k (.inl false)) (.bn (zG (At.mk (t40.getD t42.toNat default).At.Kind (t40.getD t42.toNat default).At.Row (t40.getD t42.toNat default).At.Ag (t40.getD t42.toNat default).At.Func (t40.getD t42.toNat default).At.Items (t40.getD t42.toNat default).At.Op (t40.getD t42.toNat default).At.Bd)) λr3=>.i (!r3) (.k (.inl false)) (.h (a,(),t10,t11,t12,t40,t41,(IntKind.i64.wrap (t42+1)),()) (t,())))) .d) (.bn (zG (At.mk (t40.getD t42.toNat default).At.Kind (t40.getD t42.toNat default).At.Row (t40.getD t42.toNat default).At.Ag (t40.getD t42.toNat default).At.Func (t40.getD t42.toNat default).At.Items (t40.getD t42.toNat default).At.Op (t40.getD t42.toNat default).At.Bd)) λr5=>.i (!r5) (.k (.inl false)) (.h (a,(),t10,t11,t12,t40,t41,(IntKind.i64.wrap (t42+1)),()) (t,())))))) .d) (.k (.inr (a,t10,t11,t12)))
def zwu (zG:At->Bool×Bool) (x:zrF) (y:Term×Unit):=zkk zG x.1 x.2.2.1 x.2.2.2.1 x.2.2.2.2.1 x.2.2.2.2.2.1 x.2.2.2.2.2.2.1 x.2.2.2.2.2.2.2.1 y.1
def zvI (zG:At->Bool×Bool) (n:Nat) (a:yC) (t10:yC) (t11:Int) (t12:Int) (t40:yD) (t41:Int) (t42:Int) (t:Term):=zA (zwu zG) (.inl default) n (a,(),t10,t11,t12,t40,t41,t42,()) (t,())
def zRI (r:zGV):LTree ty:=.ite (isL r) (.done .ret [.lit (.bool (getL r))] []) (.done (.exit 2) [.sl 28 (getR r).1,.sl 28 (getR r).2.1,.lit (.int .i64 (getR r).2.2.1),.lit (.int .i64 (getR r).2.2.2)] [])
def zTL:LL ty zrF:=za (lSl 28) (za (zeb 340 0) (za (lSl 28) (za zj (za zj (za (lSl 69) (za zj (za zj zk)))))))
def zTI:BL ty (Term×Unit):=zf8 (zeR (λx=>(⟨x.1,x.2.1⟩:Term)) (λx=>(x.Cf,x.Fs,())) (λ_=>rfl) (za (zB .i64) (za (lSl 69) zk))) false (z8)
def zkB (zG:At->Bool×Bool) (a:yC) (t10:yC) (t11:Int) (t12:Int):Wy zrM Unit (Bool⊕Unit):=.i (decide (t12<t11)) (.i (decide (0<=t12)&&decide (t12<Int.ofNat t10.length)) (.i (decide ((t10.getD t12.toNat default).Cf<1)) (.k (.inl false)) (.i (decide ((t10.getD t12.toNat default).Cf>1152921504606846976)) (.k (.inl false)) (.i (decide (t12>0)) (.i (decide (0<=IntKind.i64.wrap (t12 - 1))&&decide (IntKind.i64.wrap (t12 - 1)<Int.ofNat a.length)) (.bn (zcx (a.getD (IntKind.i64.wrap (t12 - 1)).toNat default) (t10.getD t12.toNat default)) λr15=>.i (decide (r15≥0)) (.k (.inl false)) (.bn (zvI zG (a.length+t10.length+t11.toNat +t12.toNat +(t10.getD t12.toNat default).Fs.length+(Int.ofNat (t10.getD t12.toNat default).Fs.length).toNat +Int.toNat 0+(t10.getD t12.toNat default).Fs.length+1) a t10 t11 t12 (t10.getD t12.toNat default).Fs (Int.ofNat (t10.getD t12.toNat default).Fs.length) 0 (t10.getD t12.toNat default)) λr14=>.i (isL r14) (.k (.inl (getL r14))) (.h ((getR r14).1,(getR r14).2.1,(getR r14).2.2.1,(IntKind.i64.wrap ((getR r14).2.2.2+1)),()) ()))) .d) (.bn (zvI zG (a.length+t10.length+t11.toNat +t12.toNat +(t10.getD t12.toNat default).Fs.length+(Int.ofNat (t10.getD t12.toNat default).Fs.length).toNat +Int.toNat 0+(t10.getD t12.toNat default).Fs.length+1) a t10 t11 t12 (t10.getD t12.toNat default).Fs (Int.ofNat (t10.getD t12.toNat default).Fs.length) 0 (t10.getD t12.toNat default)) λr16=>.i (isL r16) (.k (.inl (getL r16))) (.h ((getR r16).1,(getR r16).2.1,(getR r16).2.2.1,(IntKind.i64.wrap ((getR r16).2.2.2+1)),()) ()))))) .d) (.k (.inr ()))
def zvB (zG:At->Bool×Bool) (x:zrM) (y:Unit):=zkB zG x.1 x.2.1 x.2.2.1 x.2.2.2.1
def zEc (zG:At->Bool×Bool) (n:Nat) (a:yC) (t10:yC) (t11:Int) (t12:Int):=zA (zvB zG) (.inl default) n (a,t10,t11,t12,()) ()
def zRs (r:Bool⊕Unit):LTree ty:=.ite (isL r) (.done .ret [.lit (.bool (getL r))] []) (.done (.exit 0) [] [])
def zUo:LL ty zrM:=za (lSl 28) (za (lSl 28) (za zj (za zj zk)))
def zRN (x:zrF) (y:Term×Unit):Nat:=(x.1.length+x.2.2.1.length+Int.toNat x.2.2.2.1+Int.toNat x.2.2.2.2.1+x.2.2.2.2.2.1.length+Int.toNat x.2.2.2.2.2.2.1+Int.toNat x.2.2.2.2.2.2.2.1+y.1.Fs.length+1)
def zR0 (x:zrM) (y:Unit):Nat:=(x.1.length+x.2.1.length+Int.toNat x.2.2.1+Int.toNat x.2.2.2.1+1)
def zwt (zG:At->Bool×Bool):=zbY base 85 [(62,zuy),(63,zi1),(64,zj3),(65,zmG),(66,(zmW zG))] [] [(4,(kpL [0,10,11,12])),(9,(kpL [0,4,10,11,12,40,41,42]))] [(4,1,[]),(4,0,(kpL [2])),(9,3,(kpL [0,10,11,12])),(9,0,(kpL [2]))] [(9,spW zTL zTI (zwu zG) (.inl default) zRI zRN),(4,spW zUo zbc9 (zvB zG) (.inl default) zRs zR0)] []
theorem zSo (zG:At->Bool×Bool):zy (zwt zG) (lp (body f20) 1):=zm (id:=9) (hl:=rfl)
theorem zRQ (zG:At->Bool×Bool):zy (zwt zG) (lp (body f20) 0):=zm (id:=4) (hl:=rfl)
def zFo (zG:At->Bool×Bool) (a:yC):Wy0 (Bool):=.bn (zlP a) λr21=>.i (!r21) (.k false) (.bn (zEc zG (a.length+a.length+(Int.ofNat a.length).toNat +Int.toNat 0+1) a a (Int.ofNat a.length) 0) λr20=>.i (isL r20) (.k (getL r20)) (.k true))
def znx (zG:At->Bool×Bool) (a:yC):=(zFo zG a).fin default
theorem zN5 (zG:At->Bool×Bool) (zOq:SdP 66 (zmW zG)):SdP 20 (zh1 (znx zG)):=
 sT (cx':=(zwt zG)) (zi ⟨zCb,zlY,znl,zu4,zOq,trivial⟩) call20 func20 (lOK (aC (zRQ zG) (aC (zSo zG) aN)))
def zZD:=zbt base 9 [(67,zCe)]
def zJg (a:yC) (b:yC):Wy0 (Bool):=.bn (zAR a b) λr0=>.k (r0==0)
def zih (a:yC) (b:yC):=(zJg a b).fin default
def zn0:=zh zWi λx=>((zih x.1 x.2.1).1,zZL (zih x.1 x.2.1).2)
theorem zut:SdP 21 zn0:=
 sT (cx':=zZD) (zi ⟨zPh,trivial⟩) call21 func21 (lOK aN)
def zbbU:=zbt base 36 []
def zX2 (v:Value):Wy0 (Bool):=.i (v.Kind==0) (.k (v.Text.toList==(ByteArray.mk #[]).toList)) (.i (v.Kind==1) (.i (v.Int==0) (.k (decide (Int.ofNat v.Text.size<=255))) (.k false)) (.i (v.Kind==2) (.i (v.Int==0) (.k (v.Text.toList==(ByteArray.mk #[]).toList)) (.i (v.Int==1) (.k (v.Text.toList==(ByteArray.mk #[]).toList)) (.k false))) (.k false)))
def zup (v:Value):=(zX2 v).fin default
def zbdq:AL base (Value×Unit):=zc (ze (zcy 65)) zo
def zxd:=zh zbdq λx=>((zup x.1).1,zZL (zup x.1).2)
theorem zCs:SdP 164 zxd:=
 sT (cx':=zbbU) (zi trivial) call164 func164 (lOK aN)
def zPd:=zbt base 27 [(164,zxd)]
def zB2 (w:Wd) (p1:Value) (p2:Int):Wy0 (Bool):=.bn (zup w.Value) λr0=>.i (!r0) (.k true) (.i (w.Value.Kind != p1.Kind) (.k true) (.i (p2==0) (.k (w.Value.Int != 1)) (.k false)))
def zhK (w:Wd) (p1:Value) (p2:Int):=(zB2 w p1 p2).fin default
def zP3:AL base (Wd×Value×(Int×Unit)×Unit):=zc (ze (zcy 100)) (zc (ze (zzR 65)) (zc (ze (zuA (zdz zf9 zb4))) zo))
def zj5:=zh zP3 λx=>((zhK x.1 x.2.1 x.2.2.1.1).1,zZL (zhK x.1 x.2.1 x.2.2.1.1).2)
theorem znj:SdP 165 zj5:=
 sT (cx':=zPd) (zi ⟨zCs,trivial⟩) call165 func165 (lOK aN)
abbrev zdN:=yE×(Value×(Int×Unit)×Unit)×Int×Int×Unit
def zqm (s:yE) (f_0:Value) (f_1:Int) (t7:Int) (t8:Int):Wy zdN Unit (Int⊕Unit):=.i (decide (t8<t7)) (.i (decide (0<=t8)&&decide (t8<Int.ofNat s.length)) (.bn (zhK (s.getD t8.toNat default) f_0 f_1) λr0=>.i (r0) (.k (.inl t8)) (.h (s,(f_0,(f_1,()),()),t7,(IntKind.i64.wrap (t8+1)),()) ())) .d) (.k (.inr ()))
def zhJ (x:zdN) (y:Unit):=zqm x.1 x.2.1.1 x.2.1.2.1.1 x.2.2.1 x.2.2.2.1
def zqs (n:Nat) (s:yE) (f_0:Value) (f_1:Int) (t7:Int) (t8:Int):=zA (zhJ) (.inl default) n (s,(f_0,(f_1,()),()),t7,t8,()) ()
def zql:LL ty zdN:=za (lSl 100) (za (lFn 165 (za (znk (zeR (λx=>(⟨x.1,x.2.1,x.2.2.1⟩:Value)) (λx=>(x.Kind,x.Int,x.Text,())) (λ_=>rfl) (za zj (za zj (za zl4 zk)))) 0) (za (znk (za zj zk) 0) zk))) (za zj (za zj zk)))
def zpn (x:zdN) (y:Unit):Nat:=(x.1.length+Int.toNat x.2.1.2.1.1+Int.toNat x.2.2.1+Int.toNat x.2.2.2.1+1)
def zhG:=zbY base 19 [(165,zj5)] [] [(2,(kpL [0,1,7,8]))] [(2,1,[]),(2,0,(kpL [4]))] [(2,spW zql zbc9 (zhJ) (.inl default) zsU zpn)] []
theorem zpt:zy zhG (lp (body f163) 0):=zm (id:=2) (hl:=rfl)
def zrr (s:yE) (f_0:Value) (f_1:Int):Wy0 (Int):=.bn (zqs (s.length+f_1.toNat +(Int.ofNat s.length).toNat +Int.toNat 0+1) s f_0 f_1 (Int.ofNat s.length) 0) λr2=>.i (isL r2) (.k (getL r2)) (.k (-1:Int))
def zdt (s:yE) (f_0:Value) (f_1:Int):=(zrr s f_0 f_1).fin default
def zry:AL base (yE×(Value×(Int×Unit)×Unit)×Unit):=zc (ze (vSl 100)) (zc (ze (vFn 165 (zdz (zzR 65) (zdz (zuA (zdz zf9 zb4)) zb4)))) zo)
def zg3:=zh zry λx=>((zdt x.1 x.2.1.1 x.2.1.2.1.1).1,zRZ (zdt x.1 x.2.1.1 x.2.1.2.1.1).2)
theorem zoB:SdP 163 zg3:=
 sT (cx':=zhG) (zi ⟨znj,trivial⟩) call163 func163 (lOK (aC zpt aN))
def zoh:=zbt base 9 [(163,zg3),(165,zj5)]
def zg5 (s:yE) (f_0:Value) (f_1:Int):Wy0 (Bool):=.bn (zdt s f_0 f_1) λr0=>.k (decide (r0≥0))
def zbI (s:yE) (f_0:Value) (f_1:Int):=(zg5 s f_0 f_1).fin default
def zgh:=zh zry λx=>((zbI x.1 x.2.1.1 x.2.1.2.1.1).1,zZL (zbI x.1 x.2.1.1 x.2.1.2.1.1).2)
theorem zmZ:SdP 132 zgh:=
 sT (cx':=zoh) (zi ⟨zoB,znj,trivial⟩) call132 func132 (lOK aN)
def zU8:=zbt base 43 [(132,zgh),(164,zxd),(165,zj5)]
def zFN (fn:Int) (items:yE) (op:Int) (bound:Value):Wy0 (Bool):=.i (decide (fn<0)) (.k false) (.i (decide (fn>3)) (.k false) (.i (decide (op<5)) (.k false) (.i (decide (op>10)) (.k false) (.bn (zup bound) λr3=>.i (!r3) (.k false) (.i (fn==0) (.i (bound.Kind != 0) (.k false) (.bn (zbI items bound fn) λr0=>.k (!r0))) (.i (fn==1) (.i (bound.Kind != 0) (.k false) (.bn (zbI items bound fn) λr1=>.k (!r1))) (.bn (zbI items bound fn) λr2=>.k (!r2))))))))
def zkt (fn:Int) (items:yE) (op:Int) (bound:Value):=(zFN fn items op bound).fin default
def zXp:AL base (Int×yE×Int×Value×Unit):=zc (ze zf9) (zc (ze (vSl 100)) (zc (ze zf9) (zc (ze (zcy 65)) zo)))
def zsI:=zh zXp λx=>((zkt x.1 x.2.1 x.2.2.1 x.2.2.2.1).1,zZL (zkt x.1 x.2.1 x.2.2.1 x.2.2.2.1).2)
theorem zAB:SdP 135 zsI:=
 sT (cx':=zU8) (zi ⟨zmZ,zCs,znj,trivial⟩) call135 func135 (lOK aN)
def zHN:=zbt base 7 []
def zw4 (t:Term):Wy0 (Bool):=.k (Int.ofNat t.Fs.length==0)
def zhu (t:Term):=(zw4 t).fin default
def zhn:=zh zSh λx=>((zhu x.1).1,zZL (zhu x.1).2)
theorem zkT:SdP 162 zhn:=
 sT (cx':=zHN) (zi trivial) call162 func162 (lOK aN)
abbrev zec:=yC×Unit×Int×Int×Unit
def zsq (s:yC) (t7:Int) (t8:Int):Wy zec Unit (Int⊕Unit):=.i (decide (t8<t7)) (.i (decide (0<=t8)&&decide (t8<Int.ofNat s.length)) (.i ((zhu (s.getD t8.toNat default)).2) (.k (.inl t8)) (.h (s,(),t7,(IntKind.i64.wrap (t8+1)),()) ())) .d) (.k (.inr ()))
def zi7 (x:zec) (y:Unit):=zsq x.1 x.2.2.1 x.2.2.2.1
def zsR (n:Nat) (s:yC) (t7:Int) (t8:Int):=zA (zi7) (.inl default) n (s,(),t7,t8,()) ()
def zs2:LL ty zec:=za (lSl 28) (za (lFn 162 (zk)) (za zj (za zj zk)))
def zsi (x:zec) (y:Unit):Nat:=(x.1.length+Int.toNat x.2.2.1+Int.toNat x.2.2.2.1+1)
def zja:=zbY base 19 [(162,zhn)] [] [(2,(kpL [0,1,7,8]))] [(2,1,[]),(2,0,(kpL [4]))] [(2,spW zs2 zbc9 (zi7) (.inl default) zsU zsi)] []
theorem zsm:zy zja (lp (body f113) 0):=zm (id:=2) (hl:=rfl)
def zuj (s:yC):Wy0 (Int):=.bn (zsR (s.length+(Int.ofNat s.length).toNat +Int.toNat 0+1) s (Int.ofNat s.length) 0) λr0=>.i (isL r0) (.k (getL r0)) (.k (-1:Int))
def zdX (s:yC):=(zuj s).fin default
def zt1:AL base (yC×Unit×Unit):=zc (ze (vSl 28)) (zc (ze (vFn 162 zb4)) zo)
def zh3:=zh zt1 λx=>((zdX x.1).1,zRZ (zdX x.1).2)
theorem zqa:SdP 113 zh3:=
 sT (cx':=zja) (zi ⟨zkT,trivial⟩) call113 func113 (lOK (aC zsm aN))
def zqk:=zbt base 9 [(113,zh3),(162,zhn)]
def zhY (s:yC):Wy0 (Bool):=.bn (zdX s) λr0=>.k (decide (r0≥0))
def zdx (s:yC):=(zhY s).fin default
def zha:=zh zt1 λx=>((zdx x.1).1,zZL (zdx x.1).2)
theorem zop:SdP 59 zha:=
 sT (cx':=zqk) (zi ⟨zqa,zkT,trivial⟩) call59 func59 (lOK aN)
def zM0:=zbt base 5 [(59,zha),(162,zhn)]
def zAP (a:yC):Wy0 (Bool):=.bn (zdx a) λr0=>.k r0
def zfd (a:yC):=(zAP a).fin default
def znD:=zh z0t λx=>((zfd x.1).1,zZL (zfd x.1).2)
theorem zwy:SdP 131 znD:=
 sT (cx':=zM0) (zi ⟨zop,zkT,trivial⟩) call131 func131 (lOK aN)
def zND:=zbt base 14 []
def zCf (a:yC):Wy0 (Bool):=.i (Int.ofNat a.length==1) (.i (decide ((0:Int)<=(0:Int))&&decide (0<Int.ofNat a.length)) (.k (Int.ofNat (a.getD (Int.toNat 0) default).Fs.length==0)) .d) (.k false)
def zhP (a:yC):=(zCf a).fin default
def zoA:=zh z0t λx=>((zhP x.1).1,zZL (zhP x.1).2)
theorem zw6:SdP 129 zoA:=
 sT (cx':=zND) (zi trivial) call129 func129 (lOK aN)
def zWn:=zbt base 42 [(64,zj3)]
def zGR (a:yC):Wy0 (Bool):=.i (Int.ofNat a.length != 1) (.k false) (.i (decide ((0:Int)<=(0:Int))&&decide (0<Int.ofNat a.length)) (.i ((a.getD (Int.toNat 0) default).Cf != 1) (.k false) (.i (decide ((0:Int)<=(0:Int))&&decide (0<Int.ofNat a.length)) (.i (Int.ofNat (a.getD (Int.toNat 0) default).Fs.length != 1) (.k false) (.i (decide ((0:Int)<=(0:Int))&&decide (0<Int.ofNat a.length)) (.i (decide ((0:Int)<=(0:Int))&&decide (0<Int.ofNat (a.getD (Int.toNat 0) default).Fs.length)) (.i (((a.getD (Int.toNat 0) default).Fs.getD (Int.toNat 0) default).Exp==1) (.i (((a.getD (Int.toNat 0) default).Fs.getD (Int.toNat 0) default).At.Kind==2) (.k true) (.bn (zfX (At.mk ((a.getD (Int.toNat 0) default).Fs.getD (Int.toNat 0) default).At.Kind ((a.getD (Int.toNat 0) default).Fs.getD (Int.toNat 0) default).At.Row ((a.getD (Int.toNat 0) default).Fs.getD (Int.toNat 0) default).At.Ag ((a.getD (Int.toNat 0) default).Fs.getD (Int.toNat 0) default).At.Func ((a.getD (Int.toNat 0) default).Fs.getD (Int.toNat 0) default).At.Items ((a.getD (Int.toNat 0) default).Fs.getD (Int.toNat 0) default).At.Op ((a.getD (Int.toNat 0) default).Fs.getD (Int.toNat 0) default).At.Bd)) λr0=>.k r0)) (.k false)) .d) .d)) .d)) .d)
def zlQ (a:yC):=(zGR a).fin default
def zuU:=zh z0t λx=>((zlQ x.1).1,zZL (zlQ x.1).2)
theorem zB0:SdP 130 zuU:=
 sT (cx':=zWn) (zi ⟨znl,trivial⟩) call130 func130 (lOK aN)
def z81:=zbt base 11 []
def zTC (id:RowID):Wy0 (Bool):=.i (decide (id.Table≥1)) (.k (decide (id.Seq≥1))) (.k false)
def zqS (id:RowID):=(zTC id).fin default
def zbaA:AL base (RowID×Unit):=zc (ze (zcy 49)) zo
def zvn:=zh zbaA λx=>((zqS x.1).1,zZL (zqS x.1).2)
theorem zBf:SdP 128 zvn:=
 sT (cx':=z81) (zi trivial) call128 func128 (lOK aN)
abbrev ze6:=yE×Unit×Int×Unit
def zeC (x_:yE) (i:Int):Wy ze6 Unit (Bool⊕Unit):=.i (decide (i>0)) (.i (decide (0<=i)&&decide (i<Int.ofNat x_.length)) (.i (decide (0<=IntKind.i64.wrap (i - 1))&&decide (IntKind.i64.wrap (i - 1)<Int.ofNat x_.length)) (.bn (zbv (x_.getD i.toNat default) (x_.getD (IntKind.i64.wrap (i - 1)).toNat default)) λr0=>.i (decide (r0<0)) (.k (.inl false)) (.h (x_,(),(IntKind.i64.wrap (i - 1)),()) ())) .d) .d) (.k (.inr ()))
def zhH (x:ze6) (y:Unit):=zeC x.1 x.2.2.1
def zeB (n:Nat) (x_:yE) (i:Int):=zA (zhH) (.inl default) n (x_,(),i,()) ()
def zqt:LL ty ze6:=za (lSl 100) (za (lFn 124 (zk)) (za zj zk))
def zhO:=zbY base 25 [(124,zfS)] [] [(2,(kpL [0,1,5]))] [(2,1,[]),(2,0,(kpL [4]))] [(2,spW zqt zbc9 (zhH) (.inl default) zRs λx y=>(x.1.length+Int.toNat x.2.2.1+1))] []
theorem zph:zy zhO (lp (body f134) 0):=zm (id:=2) (hl:=rfl)
def zii (x_:yE):Wy0 (Bool):=.bn (zeB (x_.length+(IntKind.i64.wrap (Int.ofNat x_.length - 1)).toNat +1) x_ (IntKind.i64.wrap (Int.ofNat x_.length - 1))) λr2=>.i (isL r2) (.k (getL r2)) (.k true)
def zcv (x_:yE):=(zii x_).fin default
def zqH:AL base (yE×Unit×Unit):=zc (ze (vSl 100)) (zc (ze (vFn 124 zb4)) zo)
def zhb:=zh zqH λx=>((zcv x.1).1,zZL (zcv x.1).2)
theorem zov:SdP 134 zhb:=
 sT (cx':=zhO) (zi ⟨zhT,trivial⟩) call134 func134 (lOK (aC zph aN))
def zc4 (zb:yA->Bool×Bool) (zf:yC->Bool×Bool) (zd:yE->Bool×Bool) (zg:Wd->Bool×Bool):=zbt base 149 [(21,zn0),(124,zfS),(126,(zcC zb)),(127,(zh1 zf)),(128,zvn),(129,zoA),(130,zuU),(131,znD),(132,(zcW zd)),(133,(zdA zg)),(134,zhb),(135,zsI)]
def zco (zb:yA->Bool×Bool) (zf:yC->Bool×Bool) (zd:yE->Bool×Bool) (zg:Wd->Bool×Bool) (x_:At):Wy0 (Bool):=.i (x_.Kind==0) (.i (x_.Func != 0) (.k false) (.i (Int.ofNat x_.Items.length != 0) (.k false) (.i (x_.Op != 0) (.k false) (.i (!(x_.Bd.Kind==0&&(x_.Bd.Int==0&&(x_.Bd.Text.toList==(ByteArray.mk #[]).toList&&true)))) (.k false) (.bn (zb x_.Ag) λr1=>.i (r1) (.k false) (.bn (zqS x_.Row) λr0=>.i (r0) (.k (Int.ofNat x_.Ag.length==0)) (.k false))))))) (.i (x_.Kind==1) (.i (x_.Func != 0) (.k false) (.i (Int.ofNat x_.Items.length != 0) (.k false) (.i (x_.Op != 0) (.k false) (.i (!(x_.Bd.Kind==0&&(x_.Bd.Int==0&&(x_.Bd.Text.toList==(ByteArray.mk #[]).toList&&true)))) (.k false) (.i (!(x_.Row.Table==0&&(x_.Row.Seq==0&&true))) (.k false) (.bn (zb x_.Ag) λr3=>.i (r3) (.k false) (.i (Int.ofNat x_.Ag.length==2) (.i (decide ((0:Int)<=(0:Int))&&decide (0<Int.ofNat x_.Ag.length)) (.i (decide ((0:Int)<=(1:Int))&&decide (1<Int.ofNat x_.Ag.length)) (.bn (zih (x_.Ag.getD (Int.toNat 0) default) (x_.Ag.getD (Int.toNat 1) default)) λr2=>.k (!r2)) .d) .d) (.k false)))))))) (.i (x_.Kind==2) (.i (x_.Func != 0) (.k false) (.i (Int.ofNat x_.Items.length != 0) (.k false) (.i (x_.Op != 0) (.k false) (.i (!(x_.Bd.Kind==0&&(x_.Bd.Int==0&&(x_.Bd.Text.toList==(ByteArray.mk #[]).toList&&true)))) (.k false) (.i (!(x_.Row.Table==0&&(x_.Row.Seq==0&&true))) (.k false) (.bn (zb x_.Ag) λr6=>.i (r6) (.k false) (.i (Int.ofNat x_.Ag.length==1) (.i (decide ((0:Int)<=(0:Int))&&decide (0<Int.ofNat x_.Ag.length)) (.bn (zhP (x_.Ag.getD (Int.toNat 0) default)) λr5=>.i (!r5) (.i (decide ((0:Int)<=(0:Int))&&decide (0<Int.ofNat x_.Ag.length)) (.bn (zlQ (x_.Ag.getD (Int.toNat 0) default)) λr4=>.k (!r4)) .d) (.k false)) .d) (.k false)))))))) (.i (x_.Kind==3) (.i (x_.Func != 0) (.k false) (.i (Int.ofNat x_.Items.length != 0) (.k false) (.i (x_.Op != 0) (.k false) (.i (!(x_.Bd.Kind==0&&(x_.Bd.Int==0&&(x_.Bd.Text.toList==(ByteArray.mk #[]).toList&&true)))) (.k false) (.i (!(x_.Row.Table==0&&(x_.Row.Seq==0&&true))) (.k false) (.bn (zb x_.Ag) λr8=>.i (r8) (.k false) (.i (Int.ofNat x_.Ag.length==1) (.i (decide ((0:Int)<=(0:Int))&&decide (0<Int.ofNat x_.Ag.length)) (.bn (zfd (x_.Ag.getD (Int.toNat 0) default)) λr7=>.k (!r7)) .d) (.k false)))))))) (.i (x_.Kind==4) (.i (!(x_.Row.Table==0&&(x_.Row.Seq==0&&true))) (.k false) (.bn (zb x_.Ag) λr12=>.i (r12) (.k false) (.bn (zd x_.Items) λr11=>.i (Int.ofNat x_.Ag.length==0) (.i (decide (Int.ofNat x_.Items.length>0)) (.i (!r11) (.bn (zcv x_.Items) λr10=>.i (r10) (.bn (zkt x_.Func x_.Items x_.Op x_.Bd) λr9=>.k r9) (.k false)) (.k false)) (.k false)) (.k false)))) (.i (x_.Func != 0) (.k false) (.i (Int.ofNat x_.Items.length != 0) (.k false) (.i (x_.Op != 0) (.k false) (.i (!(x_.Bd.Kind==0&&(x_.Bd.Int==0&&(x_.Bd.Text.toList==(ByteArray.mk #[]).toList&&true)))) (.k false) (.i (!(x_.Row.Table==0&&(x_.Row.Seq==0&&true))) (.k false) (.bn (zb x_.Ag) λr14=>.i (r14) (.k false) (.k false)))))))))))
def zjT (zb:yA->Bool×Bool) (zf:yC->Bool×Bool) (zd:yE->Bool×Bool) (zg:Wd->Bool×Bool) (x_:At):=(zco zb zf zd zg x_).fin default
theorem zIJ (zb:yA->Bool×Bool) (zf:yC->Bool×Bool) (zd:yE->Bool×Bool) (zg:Wd->Bool×Bool) (v_Row:RowID) (v_Args:yA) (v_Func:Int) (v_Items:yE) (v_Op:Int) (v_Bound:Value)  :zgD (zc4 zb zf zd zg) f66 (body f66) ⟨[.pure],[]⟩ [.pure (.agg (base.enc 67 (At.mk (Int.ofNat 0) v_Row v_Args v_Func v_Items v_Op v_Bound)))]=(zco zb zf zd zg (At.mk (Int.ofNat 0) v_Row v_Args v_Func v_Items v_Op v_Bound)).ev noH (λr=>some (zZL r)) none:=by kernel_rfl
theorem zI4 (zb:yA->Bool×Bool) (zf:yC->Bool×Bool) (zd:yE->Bool×Bool) (zg:Wd->Bool×Bool) (v_Row:RowID) (v_Args:yA) (v_Func:Int) (v_Items:yE) (v_Op:Int) (v_Bound:Value)  :zgD (zc4 zb zf zd zg) f66 (body f66) ⟨[.pure],[]⟩ [.pure (.agg (base.enc 67 (At.mk (Int.ofNat 1) v_Row v_Args v_Func v_Items v_Op v_Bound)))]=(zco zb zf zd zg (At.mk (Int.ofNat 1) v_Row v_Args v_Func v_Items v_Op v_Bound)).ev noH (λr=>some (zZL r)) none:=by kernel_rfl
theorem zIv (zb:yA->Bool×Bool) (zf:yC->Bool×Bool) (zd:yE->Bool×Bool) (zg:Wd->Bool×Bool) (v_Row:RowID) (v_Args:yA) (v_Func:Int) (v_Items:yE) (v_Op:Int) (v_Bound:Value)  :zgD (zc4 zb zf zd zg) f66 (body f66) ⟨[.pure],[]⟩ [.pure (.agg (base.enc 67 (At.mk (Int.ofNat 2) v_Row v_Args v_Func v_Items v_Op v_Bound)))]=(zco zb zf zd zg (At.mk (Int.ofNat 2) v_Row v_Args v_Func v_Items v_Op v_Bound)).ev noH (λr=>some (zZL r)) none:=by kernel_rfl
theorem zIS (zb:yA->Bool×Bool) (zf:yC->Bool×Bool) (zd:yE->Bool×Bool) (zg:Wd->Bool×Bool) (v_Row:RowID) (v_Args:yA) (v_Func:Int) (v_Items:yE) (v_Op:Int) (v_Bound:Value)  :zgD (zc4 zb zf zd zg) f66 (body f66) ⟨[.pure],[]⟩ [.pure (.agg (base.enc 67 (At.mk (Int.ofNat 3) v_Row v_Args v_Func v_Items v_Op v_Bound)))]=(zco zb zf zd zg (At.mk (Int.ofNat 3) v_Row v_Args v_Func v_Items v_Op v_Bound)).ev noH (λr=>some (zZL r)) none:=by kernel_rfl
theorem zJ0 (zb:yA->Bool×Bool) (zf:yC->Bool×Bool) (zd:yE->Bool×Bool) (zg:Wd->Bool×Bool) (v_Row:RowID) (v_Args:yA) (v_Func:Int) (v_Items:yE) (v_Op:Int) (v_Bound:Value)  :zgD (zc4 zb zf zd zg) f66 (body f66) ⟨[.pure],[]⟩ [.pure (.agg (base.enc 67 (At.mk (Int.ofNat 4) v_Row v_Args v_Func v_Items v_Op v_Bound)))]=(zco zb zf zd zg (At.mk (Int.ofNat 4) v_Row v_Args v_Func v_Items v_Op v_Bound)).ev noH (λr=>some (zZL r)) none:=by kernel_rfl
theorem zJI (zb:yA->Bool×Bool) (zf:yC->Bool×Bool) (zd:yE->Bool×Bool) (zg:Wd->Bool×Bool) (n:Nat) (v_Row:RowID) (v_Args:yA) (v_Func:Int) (v_Items:yE) (v_Op:Int) (v_Bound:Value)  :zgD (zc4 zb zf zd zg) f66 (body f66) ⟨[.pure],[]⟩ [.pure (.agg (base.enc 67 (At.mk (Int.ofNat (n+5)) v_Row v_Args v_Func v_Items v_Op v_Bound)))]=(zco zb zf zd zg (At.mk (Int.ofNat (n+5)) v_Row v_Args v_Func v_Items v_Op v_Bound)).ev noH (λr=>some (zZL r)) none:=by kernel_rfl
theorem zJN (zb:yA->Bool×Bool) (zf:yC->Bool×Bool) (zd:yE->Bool×Bool) (zg:Wd->Bool×Bool) (n:Nat) (v_Row:RowID) (v_Args:yA) (v_Func:Int) (v_Items:yE) (v_Op:Int) (v_Bound:Value)  :zgD (zc4 zb zf zd zg) f66 (body f66) ⟨[.pure],[]⟩ [.pure (.agg (base.enc 67 (At.mk (Int.negSucc n) v_Row v_Args v_Func v_Items v_Op v_Bound)))]=(zco zb zf zd zg (At.mk (Int.negSucc n) v_Row v_Args v_Func v_Items v_Op v_Bound)).ev noH (λr=>some (zZL r)) none:=by kernel_rfl
theorem zKN (zb:yA->Bool×Bool) (zf:yC->Bool×Bool) (zd:yE->Bool×Bool) (zg:Wd->Bool×Bool) (x_:At):zgD (zc4 zb zf zd zg) f66 (body f66) ⟨[.pure],[]⟩ [.pure (.agg (base.enc 67 x_))]=(zco zb zf zd zg x_).ev noH (λr=>some (zZL r)) none:=by
 obtain ⟨v_Kind,v_Row,v_Args,v_Func,v_Items,v_Op,v_Bound⟩:=x_
 match v_Kind with
 | .ofNat 0=>exact zIJ zb zf zd zg v_Row v_Args v_Func v_Items v_Op v_Bound 
 | .ofNat 1=>exact zI4 zb zf zd zg v_Row v_Args v_Func v_Items v_Op v_Bound 
 | .ofNat 2=>exact zIv zb zf zd zg v_Row v_Args v_Func v_Items v_Op v_Bound 
 | .ofNat 3=>exact zIS zb zf zd zg v_Row v_Args v_Func v_Items v_Op v_Bound 
 | .ofNat 4=>exact zJ0 zb zf zd zg v_Row v_Args v_Func v_Items v_Op v_Bound 
 | .ofNat (n+5)=>exact zJI zb zf zd zg n v_Row v_Args v_Func v_Items v_Op v_Bound 
 | .negSucc n=>exact zJN zb zf zd zg n v_Row v_Args v_Func v_Items v_Op v_Bound 
theorem zHJ (zb:yA->Bool×Bool) (zf:yC->Bool×Bool) (zd:yE->Bool×Bool) (zg:Wd->Bool×Bool) (zmo:SdP 126 (zcC zb)) (zgj:SdP 127 (zh1 zf)) (znF:SdP 132 (zcW zd)) (zgf:SdP 133 (zdA zg)):SdP 66 (zmW (zjT zb zf zd zg)):=
 z3h (cx':=(zc4 zb zf zd zg)) zGk zgn zbfN (zi ⟨zut,zhT,zmo,zgj,zBf,zw6,zB0,zwy,znF,zgf,zov,zAB,trivial⟩) call66 func66 (c:=body f66) (by kernel_rfl) (zBz (l:=[]) (by kernel_rfl) trivial) (sg:=⟨[.pure],[]⟩) (A:=zC1) (res:=zZL) (W:=λx=>zco zb zf zd zg x.1) (z:=default) (λx=>zKN zb zf zd zg x.1) (λ_=>by kernel_rfl)
def zHs (zbX:yC->Bool×Bool):=zbt base 11 [(20,(zh1 zbX))]
def zw8 (zbX:yC->Bool×Bool) (a:yC):Wy0 (Bool):=.bn (zbX a) λr0=>.i (!r0) (.k true) (.k (Int.ofNat a.length==0))
def zkR (zbX:yC->Bool×Bool) (a:yC):=(zw8 zbX a).fin default
theorem zE3 (zbX:yC->Bool×Bool) (zxJ:SdP 20 (zh1 zbX)):SdP 127 (zh1 (zkR zbX)):=
 sT (cx':=(zHs zbX)) (zi ⟨zxJ,trivial⟩) call127 func127 (lOK aN)
def zHd (zbX:yC->Bool×Bool):=zbt base 13 [(20,(zh1 zbX))]
def zw0 (zbX:yC->Bool×Bool) (w:Wd):Wy0 (Bool):=.bn (zbX w.Ann) λr0=>.i (!r0) (.k true) (.k (Int.ofNat w.Ann.length==0))
def zkM (zbX:yC->Bool×Bool) (w:Wd):=(zw0 zbX w).fin default
theorem zE0 (zbX:yC->Bool×Bool) (zxJ:SdP 20 (zh1 zbX)):SdP 133 (zdA (zkM zbX)):=
 sT (cx':=(zHd zbX)) (zi ⟨zxJ,trivial⟩) call133 func133 (lOK aN)
def zl7 (zf:yC->Bool×Bool) (zbb:yA->Bool×Int):=zbt base 9 [(127,(zh1 zf)),(161,(zcN zbb))]
def zfC (zf:yC->Bool×Bool) (zbb:yA->Bool×Int) (s:yA):Wy0 (Bool):=.bn (zbb s) λr0=>.k (decide (r0≥0))
def zcA (zf:yC->Bool×Bool) (zbb:yA->Bool×Int) (s:yA):=(zfC zf zbb s).fin default
theorem zk2 (zf:yC->Bool×Bool) (zbb:yA->Bool×Int) (zgj:SdP 127 (zh1 zf)) (znz:SdP 161 (zcN zbb)):SdP 126 (zcC (zcA zf zbb)):=
 sT (cx':=(zl7 zf zbb)) (zi ⟨zgj,znz,trivial⟩) call126 func126 (lOK aN)
def znA (zg:Wd->Bool×Bool) (zbg:yE->Bool×Int):=zbt base 9 [(133,(zdA zg)),(163,(zde zbg))]
def zgF (zg:Wd->Bool×Bool) (zbg:yE->Bool×Int) (s:yE):Wy0 (Bool):=.bn (zbg s) λr0=>.k (decide (r0≥0))
def zcS (zg:Wd->Bool×Bool) (zbg:yE->Bool×Int) (s:yE):=(zgF zg zbg s).fin default
theorem zmk (zg:Wd->Bool×Bool) (zbg:yE->Bool×Int) (zgf:SdP 133 (zdA zg)) (zo9:SdP 163 (zde zbg)):SdP 132 (zcW (zcS zg zbg)):=
 sT (cx':=(znA zg zbg)) (zi ⟨zgf,zo9,trivial⟩) call132 func132 (lOK aN)
abbrev zdf:=yA×Unit×Int×Int×Unit
def zmU (zf:yC->Bool×Bool) (s:yA) (t7:Int) (t8:Int):Wy zdf Unit (Int⊕Unit):=.i (decide (t8<t7)) (.i (decide (0<=t8)&&decide (t8<Int.ofNat s.length)) (.bn (zf (s.getD t8.toNat default)) λr0=>.i (r0) (.k (.inl t8)) (.h (s,(),t7,(IntKind.i64.wrap (t8+1)),()) ())) .d) (.k (.inr ()))
def zf5 (zf:yC->Bool×Bool) (x:zdf) (y:Unit):=zmU zf x.1 x.2.2.1 x.2.2.2.1
def zm8 (zf:yC->Bool×Bool) (n:Nat) (s:yA) (t7:Int) (t8:Int):=zA (zf5 zf) (.inl default) n (s,(),t7,t8,()) ()
def zmX:LL ty zdf:=za (lSl 23) (za (lFn 127 (zk)) (za zj (za zj zk)))
def zmH (x:zdf) (y:Unit):Nat:=(x.1.length+Int.toNat x.2.2.1+Int.toNat x.2.2.2.1+1)
def zf2 (zf:yC->Bool×Bool):=zbY base 19 [(127,(zh1 zf))] [] [(2,(kpL [0,1,7,8]))] [(2,1,[]),(2,0,(kpL [4]))] [(2,spW zmX zbc9 (zf5 zf) (.inl default) zsU zmH)] []
theorem zmD (zf:yC->Bool×Bool):zy (zf2 zf) (lp (body f161) 0):=zm (id:=2) (hl:=rfl)
def zny (zf:yC->Bool×Bool) (s:yA):Wy0 (Int):=.bn (zm8 zf (s.length+(Int.ofNat s.length).toNat +Int.toNat 0+1) s (Int.ofNat s.length) 0) λr2=>.i (isL r2) (.k (getL r2)) (.k (-1:Int))
def zcP (zf:yC->Bool×Bool) (s:yA):=(zny zf s).fin default
theorem zl0 (zf:yC->Bool×Bool) (zgj:SdP 127 (zh1 zf)):SdP 161 (zcN (zcP zf)):=
 sT (cx':=(zf2 zf)) (zi ⟨zgj,trivial⟩) call161 func161 (lOK (aC (zmD zf) aN))
abbrev zdR:=yE×Unit×Int×Int×Unit
def zoI (zg:Wd->Bool×Bool) (s:yE) (t7:Int) (t8:Int):Wy zdR Unit (Int⊕Unit):=.i (decide (t8<t7)) (.i (decide (0<=t8)&&decide (t8<Int.ofNat s.length)) (.bn (zg (s.getD t8.toNat default)) λr0=>.i (r0) (.k (.inl t8)) (.h (s,(),t7,(IntKind.i64.wrap (t8+1)),()) ())) .d) (.k (.inr ()))
def zg2 (zg:Wd->Bool×Bool) (x:zdR) (y:Unit):=zoI zg x.1 x.2.2.1 x.2.2.2.1
def zoJ (zg:Wd->Bool×Bool) (n:Nat) (s:yE) (t7:Int) (t8:Int):=zA (zg2 zg) (.inl default) n (s,(),t7,t8,()) ()
def zo2:LL ty zdR:=za (lSl 100) (za (lFn 133 (zk)) (za zj (za zj zk)))
def zog (x:zdR) (y:Unit):Nat:=(x.1.length+Int.toNat x.2.2.1+Int.toNat x.2.2.2.1+1)
def zg4 (zg:Wd->Bool×Bool):=zbY base 19 [(133,(zdA zg))] [] [(2,(kpL [0,1,7,8]))] [(2,1,[]),(2,0,(kpL [4]))] [(2,spW zo2 zbc9 (zg2 zg) (.inl default) zsU zog)] []
theorem zom (zg:Wd->Bool×Bool):zy (zg4 zg) (lp (body f163) 0):=zm (id:=2) (hl:=rfl)
def zpo (zg:Wd->Bool×Bool) (s:yE):Wy0 (Int):=.bn (zoJ zg (s.length+(Int.ofNat s.length).toNat +Int.toNat 0+1) s (Int.ofNat s.length) 0) λr2=>.i (isL r2) (.k (getL r2)) (.k (-1:Int))
def zdg (zg:Wd->Bool×Bool) (s:yE):=(zpo zg s).fin default
theorem znp (zg:Wd->Bool×Bool) (zgf:SdP 133 (zdA zg)):SdP 163 (zde (zdg zg)):=
 sT (cx':=(zg4 zg)) (zi ⟨zgf,trivial⟩) call163 func163 (lOK (aC (zom zg) aN))
def zey:Nat->(yC->Bool×Bool)×(At->Bool×Bool)×(yC->Bool×Bool)×(Wd->Bool×Bool)×(yA->Bool×Int)×(yA->Bool×Bool)×(yE->Bool×Int)×(yE->Bool×Bool)
 | 0=>(λ_=>(false,default),λ_=>(false,default),λ_=>(false,default),λ_=>(false,default),λ_=>(false,default),λ_=>(false,default),λ_=>(false,default),λ_=>(false,default))
 | n+1=>(znx ((zey n).2.1),zjT ((zey n).2.2.2.2.2.1) ((zey n).2.2.1) ((zey n).2.2.2.2.2.2.2) ((zey n).2.2.2.1),zkR ((zey n).1),zkM ((zey n).1),zcP ((zey n).2.2.1),zcA ((zey n).2.2.1) ((zey n).2.2.2.2.1),zdg ((zey n).2.2.2.1),zcS ((zey n).2.2.2.1) ((zey n).2.2.2.2.2.2.1))
def zkq (n:Nat):yC->Bool×Bool:=(zey n).1
def zm6 (n:Nat):At->Bool×Bool:=(zey n).2.1
def zft (n:Nat):yC->Bool×Bool:=(zey n).2.2.1
def zfr (n:Nat):Wd->Bool×Bool:=(zey n).2.2.2.1
def zcO (n:Nat):yA->Bool×Int:=(zey n).2.2.2.2.1
def zcD (n:Nat):yA->Bool×Bool:=(zey n).2.2.2.2.2.1
def zdj (n:Nat):yE->Bool×Int:=(zey n).2.2.2.2.2.2.1
def zcU (n:Nat):yE->Bool×Bool:=(zey n).2.2.2.2.2.2.2
theorem zUQ (n:Nat):zkq (n+1)=znx (zm6 n):=rfl
theorem zNa (n:Nat):zm6 (n+1)=zjT (zcD n) (zft n) (zcU n) (zfr n):=rfl
theorem zH2 (n:Nat):zft (n+1)=zkR (zkq n):=rfl
theorem zHy (n:Nat):zfr (n+1)=zkM (zkq n):=rfl
theorem zm1 (n:Nat):zcO (n+1)=zcP (zft n):=rfl
theorem zl1 (n:Nat):zcD (n+1)=zcA (zft n) (zcO n):=rfl
theorem zoL (n:Nat):zdj (n+1)=zdg (zfr n):=rfl
theorem znf (n:Nat):zcU (n+1)=zcS (zfr n) (zdj n):=rfl
theorem z5v:∀ n,SdP 20 (zh1 (zkq n))/\SdP 66 (zmW (zm6 n))/\SdP 127 (zh1 (zft n))/\SdP 133 (zdA (zfr n))/\SdP 161 (zcN (zcO n))/\SdP 126 (zcC (zcD n))/\SdP 163 (zde (zdj n))/\SdP 132 (zcW (zcU n))
 | 0=>⟨zba call20 (λ_=>rfl),zba call66 (λ_=>rfl),zba call127 (λ_=>rfl),zba call133 (λ_=>rfl),zba call161 (λ_=>rfl),zba call126 (λ_=>rfl),zba call163 (λ_=>rfl),zba call132 (λ_=>rfl)⟩
 | n+1=>by
  have ih:=z5v n;exact ⟨zN5 _ (ih.2.1),zHJ _ _ _ _ (ih.2.2.2.2.2.1) (ih.2.2.1) (ih.2.2.2.2.2.2.2) (ih.2.2.2.1),zE3 _ (ih.1),zE0 _ (ih.1),zl0 _ (ih.2.2.1),zk2 _ _ (ih.2.2.1) (ih.2.2.2.2.1),znp _ (ih.2.2.2.1),zmk _ _ (ih.2.2.2.1) (ih.2.2.2.2.2.2.1)⟩
def zci:yC->Bool×Bool:=zkq 1000
def zcE:Ab.Spec ty:=zh1 zci
theorem zcI:SdP 20 zcE:=(z5v 1000).1
def zdB (F:Term->Bool×Bool):Ab.Spec ty:=zh zSh λx=>((F x.1).1,zZL (F x.1).2)
def zcY (F:Fc->Bool×Bool):Ab.Spec ty:=zh zMr λx=>((F x.1).1,zZL (F x.1).2)
def ztx:AL base (yC×Unit×Unit):=zc (ze (vSl 28)) (zc (ze (vFn 141 zb4)) zo)
def zdG (F:yC->Bool×Int):Ab.Spec ty:=zh ztx λx=>((F x.1).1,zRZ (F x.1).2)
def zdi (F:yC->Bool×Bool):Ab.Spec ty:=zh ztx λx=>((F x.1).1,zZL (F x.1).2)
def zuw:AL base (yD×Unit×Unit):=zc (ze (vSl 69)) (zc (ze (vFn 142 zb4)) zo)
def zdS (F:yD->Bool×Int):Ab.Spec ty:=zh zuw λx=>((F x.1).1,zRZ (F x.1).2)
def zdk (F:yD->Bool×Bool):Ab.Spec ty:=zh zuw λx=>((F x.1).1,zZL (F x.1).2)
def zNd (zbf:yC->Bool×Bool) (zq:Term->Bool×Bool):=zbt base 6 [(59,(zdi zbf)),(141,(zdB zq))]
def zAC (zbf:yC->Bool×Bool) (zq:Term->Bool×Bool) (a:yC):Wy0 (Bool):=.bn (zbf a) λr0=>.k (!r0)
def zm5 (zbf:yC->Bool×Bool) (zq:Term->Bool×Bool) (a:yC):=(zAC zbf zq a).fin default
theorem zHU (zbf:yC->Bool×Bool) (zq:Term->Bool×Bool) (zpM:SdP 59 (zdi zbf)) (zge:SdP 141 (zdB zq)):SdP 73 (zh1 (zm5 zbf zq)):=
 sT (cx':=(zNd zbf zq)) (zi ⟨zpM,zge,trivial⟩) call73 func73 (lOK aN)
def zH4 (zbk:yD->Bool×Bool) (zl:Fc->Bool×Bool):=zbt base 6 [(49,(zdk zbk)),(142,(zcY zl))]
def zw9 (zbk:yD->Bool×Bool) (zl:Fc->Bool×Bool) (t:Term):Wy0 (Bool):=.bn (zbk t.Fs) λr0=>.k r0
def zkF (zbk:yD->Bool×Bool) (zl:Fc->Bool×Bool) (t:Term):=(zw9 zbk zl t).fin default
theorem zEU (zbk:yD->Bool×Bool) (zl:Fc->Bool×Bool) (zqE:SdP 49 (zdk zbk)) (zfa:SdP 142 (zcY zl)):SdP 141 (zdB (zkF zbk zl)):=
 sT (cx':=(zH4 zbk zl)) (zi ⟨zqE,zfa,trivial⟩) call141 func141 (lOK aN)
def zEW (zdP:yC->Bool×Bool):=zbt base 22 [(73,(zh1 zdP))]
def ztD (zdP:yC->Bool×Bool) (f:Fc):Wy0 (Bool):=.i (f.At.Kind != 0) (.i (f.At.Kind != 2) (.k true) (.i (decide ((0:Int)<=(0:Int))&&decide (0<Int.ofNat f.At.Ag.length)) (.bn (zdP (f.At.Ag.getD (Int.toNat 0) default)) λr0=>.k (!r0)) .d)) (.k false)
def ziW (zdP:yC->Bool×Bool) (f:Fc):=(ztD zdP f).fin default
theorem zCU (zdP:yC->Bool×Bool) (zN3:SdP 73 (zh1 zdP)):SdP 142 (zcY (ziW zdP)):=
 sT (cx':=(zEW zdP)) (zi ⟨zN3,trivial⟩) call142 func142 (lOK aN)
end Go.Proofs.YtljlfiomikifjaaGreatDoor
end
