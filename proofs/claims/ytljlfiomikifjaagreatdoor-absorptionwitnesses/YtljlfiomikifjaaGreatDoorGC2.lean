/- Texts of this claim, joined (the program, its functions in plain words, and what they compute). -/
import Derived.Test.YtljlfiomikifjaaGreatDoorGC1
set_option autoImplicit false
set_option linter.unusedVariables false
set_option linter.unusedSectionVars false
set_option linter.unusedSimpArgs false
set_option maxRecDepth 1000000
set_option maxHeartbeats 0
noncomputable section
namespace Go.Proofs.YtljlfiomikifjaaGreatDoor
open Go Go.Ab
open Go.Proofs.Tryz
abbrev zsE:=Int×Unit×yC×Int×Int×yD×Int×Int×yA×Int×Int×Unit
abbrev zG2:=Int×yC×Int×Int×yD×Int×Int×Fc
abbrev zsb:=Int×yC×Int×Int×yD×Int×Int×yE×Int×Int×Unit
abbrev zGp:=Int×yC×Int×Int×yD×Int×Int
abbrev zsy:=Int×yC×Int×Int×yD×Int×Int×Unit
abbrev zGQ:=Int×yC×Int×Int
abbrev zsT:=Int×yC×Int×Int×Unit
def zjZ (zt:yC->Bool×Int) (n_:Int) (t12:yC) (t13:Int) (t14:Int) (t25:yD) (t26:Int) (t27:Int) (t33:yA) (t34:Int) (t35:Int) (f:Fc):Wy zsE (Fc×Unit) zG2:=.i (decide (t35<t34)) (.i (decide (0<=t35)&&decide (t35<Int.ofNat t33.length)) (.bn (zt (t33.getD t35.toNat default)) λr0=>.h ((IntKind.i64.wrap (n_+r0)),(),t12,t13,t14,t25,t26,t27,t33,t34,(IntKind.i64.wrap (t35+1)),()) (f,())) .d) (.k (n_,t12,t13,t14,t25,t26,t27,f))
def zut (zt:yC->Bool×Int) (x:zsE) (y:Fc×Unit):=zjZ zt x.1 x.2.2.1 x.2.2.2.1 x.2.2.2.2.1 x.2.2.2.2.2.1 x.2.2.2.2.2.2.1 x.2.2.2.2.2.2.2.1 x.2.2.2.2.2.2.2.2.1 x.2.2.2.2.2.2.2.2.2.1 x.2.2.2.2.2.2.2.2.2.2.1 y.1
def zCe (zt:yC->Bool×Int) (n:Nat) (n_:Int) (t12:yC) (t13:Int) (t14:Int) (t25:yD) (t26:Int) (t27:Int) (t33:yA) (t34:Int) (t35:Int) (f:Fc):=zH (zut zt) default n (n_,(),t12,t13,t14,t25,t26,t27,t33,t34,t35,()) (f,())
def zOA (r:zG2):LTree ty:=.done (.exit 4) [.lit (.int .i64 r.1),.ptr 248 0,.sl 28 r.2.1,.lit (.int .i64 r.2.2.1),.lit (.int .i64 r.2.2.2.1),.sl 69 r.2.2.2.2.1,.lit (.int .i64 r.2.2.2.2.2.1),.lit (.int .i64 r.2.2.2.2.2.2.1)] [.box (base.enc 69 r.2.2.2.2.2.2.2) false]
def zP3:LL ty zsE:=za zj (za (zfa 248 0) (za (lSl 28) (za zj (za zj (za (lSl 69) (za zj (za zj (za (lSl 23) (za zj (za zj zm))))))))))
def zPK:BL ty (Fc×Unit):=ziw (zgt (λx=>(⟨⟨x.1,⟨x.2.1,x.2.2.1⟩,x.2.2.2.1,x.2.2.2.2.1,x.2.2.2.2.2.1,x.2.2.2.2.2.2.1,⟨x.2.2.2.2.2.2.2.1,x.2.2.2.2.2.2.2.2.1,x.2.2.2.2.2.2.2.2.2.1⟩⟩,x.2.2.2.2.2.2.2.2.2.2.1⟩:Fc)) (λx=>(x.At.Kind,x.At.Row.Table,x.At.Row.Seq,x.At.Ag,x.At.Func,x.At.Items,x.At.Op,x.At.Bd.Kind,x.At.Bd.Int,x.At.Bd.Text,x.Exp,())) (λ_=>rfl) (za (zO .i64) (za (zO .i64) (za (zO .i64) (za (lSl 23) (za (zO .i64) (za (lSl 100) (za (zO .i64) (za (zO .i64) (za (zO .i64) (za zp3 (za (zO .i64) zm)))))))))))) false (zbg)
def zjQ (zt:yC->Bool×Int) (n_:Int) (t12:yC) (t13:Int) (t14:Int) (t25:yD) (t26:Int) (t27:Int) (t46:yE) (t47:Int) (t48:Int):Wy zsb Unit zGp:=.i (decide (t48<t47)) (.i (decide (0<=t48)&&decide (t48<Int.ofNat t46.length)) (.bn (zt (t46.getD t48.toNat default).Ann) λr2=>.h ((IntKind.i64.wrap (n_+IntKind.i64.wrap (1+r2))),t12,t13,t14,t25,t26,t27,t46,t47,(IntKind.i64.wrap (t48+1)),()) ()) .d) (.k (n_,t12,t13,t14,t25,t26,t27))
def zuu (zt:yC->Bool×Int) (x:zsb) (y:Unit):=zjQ zt x.1 x.2.1 x.2.2.1 x.2.2.2.1 x.2.2.2.2.1 x.2.2.2.2.2.1 x.2.2.2.2.2.2.1 x.2.2.2.2.2.2.2.1 x.2.2.2.2.2.2.2.2.1 x.2.2.2.2.2.2.2.2.2.1
def zCr (zt:yC->Bool×Int) (n:Nat) (n_:Int) (t12:yC) (t13:Int) (t14:Int) (t25:yD) (t26:Int) (t27:Int) (t46:yE) (t47:Int) (t48:Int):=zH (zuu zt) default n (n_,t12,t13,t14,t25,t26,t27,t46,t47,t48,()) ()
def zPB (r:zGp):LTree ty:=.done (.exit 6) [.lit (.int .i64 r.1),.sl 28 r.2.1,.lit (.int .i64 r.2.2.1),.lit (.int .i64 r.2.2.2.1),.sl 69 r.2.2.2.2.1,.lit (.int .i64 r.2.2.2.2.2.1),.lit (.int .i64 r.2.2.2.2.2.2)] []
def zQp:LL ty zsb:=za zj (za (lSl 28) (za zj (za zj (za (lSl 69) (za zj (za zj (za (lSl 100) (za zj (za zj zm)))))))))
def zky (zt:yC->Bool×Int) (n_:Int) (t12:yC) (t13:Int) (t14:Int) (t25:yD) (t26:Int) (t27:Int):Wy zsy Unit zGQ:=.i (decide (t27<t26)) (.i (decide (0<=t27)&&decide (t27<Int.ofNat t25.length)) (.bn (zCe zt (n_.toNat +t12.length+t13.toNat +t14.toNat +t25.length+t26.toNat +t27.toNat +(t25.getD t27.toNat default).At.Ag.length+(Int.ofNat (t25.getD t27.toNat default).At.Ag.length).toNat +Int.toNat 0+(t25.getD t27.toNat default).At.Ag.length+(t25.getD t27.toNat default).At.Items.length+1) n_ t12 t13 t14 t25 t26 t27 (t25.getD t27.toNat default).At.Ag (Int.ofNat (t25.getD t27.toNat default).At.Ag.length) 0 (FO.mk (At.mk (t25.getD t27.toNat default).At.Kind (t25.getD t27.toNat default).At.Row (t25.getD t27.toNat default).At.Ag (t25.getD t27.toNat default).At.Func (t25.getD t27.toNat default).At.Items (t25.getD t27.toNat default).At.Op (t25.getD t27.toNat default).At.Bd) (t25.getD t27.toNat default).Exp)) λr5=>.bn (zCr zt (r5.1.toNat +r5.2.1.length+r5.2.2.1.toNat +r5.2.2.2.1.toNat +r5.2.2.2.2.1.length+r5.2.2.2.2.2.1.toNat +r5.2.2.2.2.2.2.1.toNat +r5.2.2.2.2.2.2.2.At.Items.length+(Int.ofNat r5.2.2.2.2.2.2.2.At.Items.length).toNat +Int.toNat 0+1) r5.1 r5.2.1 r5.2.2.1 r5.2.2.2.1 r5.2.2.2.2.1 r5.2.2.2.2.2.1 r5.2.2.2.2.2.2.1 r5.2.2.2.2.2.2.2.At.Items (Int.ofNat r5.2.2.2.2.2.2.2.At.Items.length) 0) λr4=>.h ((r4.1),(r4.2.1),(r4.2.2.1),(r4.2.2.2.1),(r4.2.2.2.2.1),(r4.2.2.2.2.2.1),(IntKind.i64.wrap (r4.2.2.2.2.2.2+1)),()) ()) .d) (.k (n_,t12,t13,t14))
def zwz (zt:yC->Bool×Int) (x:zsy) (y:Unit):=zky zt x.1 x.2.1 x.2.2.1 x.2.2.2.1 x.2.2.2.2.1 x.2.2.2.2.2.1 x.2.2.2.2.2.2.1
def zD9 (zt:yC->Bool×Int) (n:Nat) (n_:Int) (t12:yC) (t13:Int) (t14:Int) (t25:yD) (t26:Int) (t27:Int):=zH (zwz zt) default n (n_,t12,t13,t14,t25,t26,t27,()) ()
def zQy (r:zGQ):LTree ty:=.done (.exit 2) [.lit (.int .i64 r.1),.sl 28 r.2.1,.lit (.int .i64 r.2.2.1),.lit (.int .i64 r.2.2.2)] []
def zTz:LL ty zsy:=za zj (za (lSl 28) (za zj (za zj (za (lSl 69) (za zj (za zj zm))))))
def zkG (zt:yC->Bool×Int) (n_:Int) (t12:yC) (t13:Int) (t14:Int):Wy zsT Unit (Int):=.i (decide (t14<t13)) (.i (decide (0<=t14)&&decide (t14<Int.ofNat t12.length)) (.bn (zD9 zt ((IntKind.i64.wrap (n_+IntKind.i64.wrap (1+Int.ofNat (t12.getD t14.toNat default).Fs.length))).toNat +t12.length+t13.toNat +t14.toNat +(t12.getD t14.toNat default).Fs.length+(Int.ofNat (t12.getD t14.toNat default).Fs.length).toNat +Int.toNat 0+1) (IntKind.i64.wrap (n_+IntKind.i64.wrap (1+Int.ofNat (t12.getD t14.toNat default).Fs.length))) t12 t13 t14 (t12.getD t14.toNat default).Fs (Int.ofNat (t12.getD t14.toNat default).Fs.length) 0) λr8=>.h ((r8.1),(r8.2.1),(r8.2.2.1),(IntKind.i64.wrap (r8.2.2.2+1)),()) ()) .d) (.k n_)
def zwD (zt:yC->Bool×Int) (x:zsT) (y:Unit):=zkG zt x.1 x.2.1 x.2.2.1 x.2.2.2.1
def zDO (zt:yC->Bool×Int) (n:Nat) (n_:Int) (t12:yC) (t13:Int) (t14:Int):=zH (zwD zt) default n (n_,t12,t13,t14,()) ()
def zP6 (r:Int):LTree ty:=.done (.exit 0) [.lit (.int .i64 r)] []
def zSo:LL ty zsT:=za zj (za (lSl 28) (za zj (za zj zm)))
def zO3 (x:zsE) (y:Fc×Unit):Nat:=(Int.toNat x.1+x.2.2.1.length+Int.toNat x.2.2.2.1+Int.toNat x.2.2.2.2.1+x.2.2.2.2.2.1.length+Int.toNat x.2.2.2.2.2.2.1+Int.toNat x.2.2.2.2.2.2.2.1+x.2.2.2.2.2.2.2.2.1.length+Int.toNat x.2.2.2.2.2.2.2.2.2.1+Int.toNat x.2.2.2.2.2.2.2.2.2.2.1+y.1.At.Ag.length+y.1.At.Items.length+1)
def zOi (x:zsb) (y:Unit):Nat:=(Int.toNat x.1+x.2.1.length+Int.toNat x.2.2.1+Int.toNat x.2.2.2.1+x.2.2.2.2.1.length+Int.toNat x.2.2.2.2.2.1+Int.toNat x.2.2.2.2.2.2.1+x.2.2.2.2.2.2.2.1.length+Int.toNat x.2.2.2.2.2.2.2.2.1+Int.toNat x.2.2.2.2.2.2.2.2.2.1+1)
def zQK (x:zsy) (y:Unit):Nat:=(Int.toNat x.1+x.2.1.length+Int.toNat x.2.2.1+Int.toNat x.2.2.2.1+x.2.2.2.2.1.length+Int.toNat x.2.2.2.2.2.1+Int.toNat x.2.2.2.2.2.2.1+1)
def zP0 (x:zsT) (y:Unit):Nat:=(Int.toNat x.1+x.2.1.length+Int.toNat x.2.2.1+Int.toNat x.2.2.2.1+1)
def zk2 (zt:yC->Bool×Int):=zbZ base 62 [(115,(zn2 zt))] [] [(3,(kpL [3,12,13,14])),(7,(kpL [3,12,13,14,25,26,27])),(10,(kpL [3,7,12,13,14,25,26,27,33,34,35])),(15,(kpL [3,12,13,14,25,26,27,46,47,48]))] [(3,1,(kpL [3])),(7,3,(kpL [3,12,13,14])),(10,5,(kpL [3,7,12,13,14,25,26,27])),(15,7,(kpL [3,12,13,14,25,26,27]))] [(10,spW zP3 zPK (zut zt) default zOA zO3),(15,spW zQp z8a (zuu zt) default zPB zOi),(7,spW zTz z8a (zwz zt) default zQy zQK),(3,spW zSo z8a (zwD zt) default zP6 zP0)] []
theorem zPi (zt:yC->Bool×Int):zD (zk2 zt) (lp (body f115) 2):=zq (id:=10) (hl:=rfl)
theorem zOI (zt:yC->Bool×Int):zD (zk2 zt) (lp (body f115) 3):=zq (id:=15) (hl:=rfl)
theorem zQD (zt:yC->Bool×Int):zD (zk2 zt) (lp (body f115) 1):=zq (id:=7) (hl:=rfl)
theorem zQL (zt:yC->Bool×Int):zD (zk2 zt) (lp (body f115) 0):=zq (id:=3) (hl:=rfl)
def zE1 (zt:yC->Bool×Int) (a:yC):Wy0 (Int):=.bn (zDO zt (Int.toNat 0+a.length+(Int.ofNat a.length).toNat +Int.toNat 0+1) 0 a (Int.ofNat a.length) 0) λr10=>.k r10
def zt5 (zt:yC->Bool×Int) (a:yC):=(zE1 zt a).fin default
theorem zM6 (zt:yC->Bool×Int) (zUm:SdP 115 (zn2 zt)):SdP 115 (zn2 (zt5 zt)):=
 sT (cx':=(zk2 zt)) (zi ⟨zUm,trivial⟩) call115 func115 (lOK (aC (zQL zt) (aC (zQD zt) (aC (zPi zt) (aC (zOI zt) aN)))))
def zbag:Nat->(yC->Bool×Int)
 | 0=>λ_=>(false,default)
 | n+1=>zt5 (zbag n)
def zlc (n:Nat):yC->Bool×Int:=zbag n
theorem zSM (n:Nat):zlc (n+1)=zt5 (zlc n):=rfl
theorem z5y:∀ n,SdP 115 (zn2 (zlc n))
 | 0=>zba call115 (λ_=>rfl)
 | n+1=>by
  have ih:=z5y n;exact zM6 _ (ih)
def zCZ:yC->Bool×Int:=zlc 1000
def zEf:Ab.Spec ty:=zn2 zCZ
theorem zQY:SdP 115 zEf:=(z5y 1000)
abbrev znd:=Int×Unit×Int×yC×Int×Int×yD×Int×Int×yA×Int×Int×Unit
abbrev zCw:=Int×Int×yC×Int×Int×yD×Int×Int×Fc
abbrev znv:=Int×Int×yC×Int×Int×yD×Int×Int×yE×Int×Int×Unit
abbrev zCi:=Int×Int×yC×Int×Int×yD×Int×Int
abbrev znj:=Int×yC×Int×Int×yD×Int×Int×Unit
abbrev zCC:=Int×yC×Int×Int
abbrev znx:=Int×yC×Int×Int×Unit
def zhK (zl:yC->Bool×Int) (n_:Int) (inner:Int) (t13:yC) (t14:Int) (t15:Int) (t20:yD) (t21:Int) (t22:Int) (t32:yA) (t33:Int) (t34:Int) (f:Fc):Wy znd (Fc×Unit) zCw:=.i (decide (t34<t33)) (.i (decide (0<=t34)&&decide (t34<Int.ofNat t32.length)) (.bn (zl (t32.getD t34.toNat default)) λr0=>.h (n_,(),(if r0>inner then r0 else inner),t13,t14,t15,t20,t21,t22,t32,t33,(IntKind.i64.wrap (t34+1)),()) (f,())) .d) (.k (n_,inner,t13,t14,t15,t20,t21,t22,f))
def zp9 (zl:yC->Bool×Int) (x:znd) (y:Fc×Unit):=zhK zl x.1 x.2.2.1 x.2.2.2.1 x.2.2.2.2.1 x.2.2.2.2.2.1 x.2.2.2.2.2.2.1 x.2.2.2.2.2.2.2.1 x.2.2.2.2.2.2.2.2.1 x.2.2.2.2.2.2.2.2.2.1 x.2.2.2.2.2.2.2.2.2.2.1 x.2.2.2.2.2.2.2.2.2.2.2.1 y.1
def zzm (zl:yC->Bool×Int) (n:Nat) (n_:Int) (inner:Int) (t13:yC) (t14:Int) (t15:Int) (t20:yD) (t21:Int) (t22:Int) (t32:yA) (t33:Int) (t34:Int) (f:Fc):=zH (zp9 zl) default n (n_,(),inner,t13,t14,t15,t20,t21,t22,t32,t33,t34,()) (f,())
def zJu (r:zCw):LTree ty:=.done (.exit 4) [.lit (.int .i64 r.1),.ptr 256 0,.lit (.int .i64 r.2.1),.sl 28 r.2.2.1,.lit (.int .i64 r.2.2.2.1),.lit (.int .i64 r.2.2.2.2.1),.sl 69 r.2.2.2.2.2.1,.lit (.int .i64 r.2.2.2.2.2.2.1),.lit (.int .i64 r.2.2.2.2.2.2.2.1)] [.box (base.enc 69 r.2.2.2.2.2.2.2.2) false]
def zLl:LL ty znd:=za zj (za (zfa 256 0) (za zj (za (lSl 28) (za zj (za zj (za (lSl 69) (za zj (za zj (za (lSl 23) (za zj (za zj zm)))))))))))
def zhx (zl:yC->Bool×Int) (n_:Int) (inner:Int) (t13:yC) (t14:Int) (t15:Int) (t20:yD) (t21:Int) (t22:Int) (t45:yE) (t46:Int) (t47:Int):Wy znv Unit zCi:=.i (decide (t47<t46)) (.i (decide (0<=t47)&&decide (t47<Int.ofNat t45.length)) (.bn (zl (t45.getD t47.toNat default).Ann) λr2=>.h (n_,(if r2>inner then r2 else inner),t13,t14,t15,t20,t21,t22,t45,t46,(IntKind.i64.wrap (t47+1)),()) ()) .d) (.k (n_,inner,t13,t14,t15,t20,t21,t22))
def zqm (zl:yC->Bool×Int) (x:znv) (y:Unit):=zhx zl x.1 x.2.1 x.2.2.1 x.2.2.2.1 x.2.2.2.2.1 x.2.2.2.2.2.1 x.2.2.2.2.2.2.1 x.2.2.2.2.2.2.2.1 x.2.2.2.2.2.2.2.2.1 x.2.2.2.2.2.2.2.2.2.1 x.2.2.2.2.2.2.2.2.2.2.1
def zzq (zl:yC->Bool×Int) (n:Nat) (n_:Int) (inner:Int) (t13:yC) (t14:Int) (t15:Int) (t20:yD) (t21:Int) (t22:Int) (t45:yE) (t46:Int) (t47:Int):=zH (zqm zl) default n (n_,inner,t13,t14,t15,t20,t21,t22,t45,t46,t47,()) ()
def zJT (r:zCi):LTree ty:=.done (.exit 6) [.lit (.int .i64 r.1),.lit (.int .i64 r.2.1),.sl 28 r.2.2.1,.lit (.int .i64 r.2.2.2.1),.lit (.int .i64 r.2.2.2.2.1),.sl 69 r.2.2.2.2.2.1,.lit (.int .i64 r.2.2.2.2.2.2.1),.lit (.int .i64 r.2.2.2.2.2.2.2)] []
def zLT:LL ty znv:=za zj (za zj (za (lSl 28) (za zj (za zj (za (lSl 69) (za zj (za zj (za (lSl 100) (za zj (za zj zm))))))))))
def zix (zl:yC->Bool×Int) (n_:Int) (t13:yC) (t14:Int) (t15:Int) (t20:yD) (t21:Int) (t22:Int):Wy znj Unit zCC:=.i (decide (t22<t21)) (.i (decide (0<=t22)&&decide (t22<Int.ofNat t20.length)) (.i ((t20.getD t22.toNat default).At.Kind==0) (.h (n_,t13,t14,t15,t20,t21,(IntKind.i64.wrap (t22+1)),()) ()) (.bn (zzm zl (n_.toNat +Int.toNat 0+t13.length+t14.toNat +t15.toNat +t20.length+t21.toNat +t22.toNat +(t20.getD t22.toNat default).At.Ag.length+(Int.ofNat (t20.getD t22.toNat default).At.Ag.length).toNat +Int.toNat 0+(t20.getD t22.toNat default).At.Ag.length+(t20.getD t22.toNat default).At.Items.length+1) n_ 0 t13 t14 t15 t20 t21 t22 (t20.getD t22.toNat default).At.Ag (Int.ofNat (t20.getD t22.toNat default).At.Ag.length) 0 (FO.mk (At.mk (t20.getD t22.toNat default).At.Kind (t20.getD t22.toNat default).At.Row (t20.getD t22.toNat default).At.Ag (t20.getD t22.toNat default).At.Func (t20.getD t22.toNat default).At.Items (t20.getD t22.toNat default).At.Op (t20.getD t22.toNat default).At.Bd) (t20.getD t22.toNat default).Exp)) λr5=>.bn (zzq zl (r5.1.toNat +r5.2.1.toNat +r5.2.2.1.length+r5.2.2.2.1.toNat +r5.2.2.2.2.1.toNat +r5.2.2.2.2.2.1.length+r5.2.2.2.2.2.2.1.toNat +r5.2.2.2.2.2.2.2.1.toNat +r5.2.2.2.2.2.2.2.2.At.Items.length+(Int.ofNat r5.2.2.2.2.2.2.2.2.At.Items.length).toNat +Int.toNat 0+1) r5.1 r5.2.1 r5.2.2.1 r5.2.2.2.1 r5.2.2.2.2.1 r5.2.2.2.2.2.1 r5.2.2.2.2.2.2.1 r5.2.2.2.2.2.2.2.1 r5.2.2.2.2.2.2.2.2.At.Items (Int.ofNat r5.2.2.2.2.2.2.2.2.At.Items.length) 0) λr4=>.h ((if IntKind.i64.wrap (1+r4.2.1)>r4.1 then IntKind.i64.wrap (1+r4.2.1) else r4.1),(r4.2.2.1),(r4.2.2.2.1),(r4.2.2.2.2.1),(r4.2.2.2.2.2.1),(r4.2.2.2.2.2.2.1),(IntKind.i64.wrap (r4.2.2.2.2.2.2.2+1)),()) ())) .d) (.k (n_,t13,t14,t15))
def zrI (zl:yC->Bool×Int) (x:znj) (y:Unit):=zix zl x.1 x.2.1 x.2.2.1 x.2.2.2.1 x.2.2.2.2.1 x.2.2.2.2.2.1 x.2.2.2.2.2.2.1
def zAm (zl:yC->Bool×Int) (n:Nat) (n_:Int) (t13:yC) (t14:Int) (t15:Int) (t20:yD) (t21:Int) (t22:Int):=zH (zrI zl) default n (n_,t13,t14,t15,t20,t21,t22,()) ()
def zLA (r:zCC):LTree ty:=.done (.exit 2) [.lit (.int .i64 r.1),.sl 28 r.2.1,.lit (.int .i64 r.2.2.1),.lit (.int .i64 r.2.2.2)] []
def zMK:LL ty znj:=za zj (za (lSl 28) (za zj (za zj (za (lSl 69) (za zj (za zj zm))))))
def ziO (zl:yC->Bool×Int) (n_:Int) (t13:yC) (t14:Int) (t15:Int):Wy znx Unit (Int):=.i (decide (t15<t14)) (.i (decide (0<=t15)&&decide (t15<Int.ofNat t13.length)) (.bn (zAm zl (n_.toNat +t13.length+t14.toNat +t15.toNat +(t13.getD t15.toNat default).Fs.length+(Int.ofNat (t13.getD t15.toNat default).Fs.length).toNat +Int.toNat 0+1) n_ t13 t14 t15 (t13.getD t15.toNat default).Fs (Int.ofNat (t13.getD t15.toNat default).Fs.length) 0) λr8=>.h ((r8.1),(r8.2.1),(r8.2.2.1),(IntKind.i64.wrap (r8.2.2.2+1)),()) ()) .d) (.k n_)
def zrY (zl:yC->Bool×Int) (x:znx) (y:Unit):=ziO zl x.1 x.2.1 x.2.2.1 x.2.2.2.1
def zAx (zl:yC->Bool×Int) (n:Nat) (n_:Int) (t13:yC) (t14:Int) (t15:Int):=zH (zrY zl) default n (n_,t13,t14,t15,()) ()
def zMI:LL ty znx:=za zj (za (lSl 28) (za zj (za zj zm)))
def zJ4 (x:znd) (y:Fc×Unit):Nat:=(Int.toNat x.1+Int.toNat x.2.2.1+x.2.2.2.1.length+Int.toNat x.2.2.2.2.1+Int.toNat x.2.2.2.2.2.1+x.2.2.2.2.2.2.1.length+Int.toNat x.2.2.2.2.2.2.2.1+Int.toNat x.2.2.2.2.2.2.2.2.1+x.2.2.2.2.2.2.2.2.2.1.length+Int.toNat x.2.2.2.2.2.2.2.2.2.2.1+Int.toNat x.2.2.2.2.2.2.2.2.2.2.2.1+y.1.At.Ag.length+y.1.At.Items.length+1)
def zJ2 (x:znv) (y:Unit):Nat:=(Int.toNat x.1+Int.toNat x.2.1+x.2.2.1.length+Int.toNat x.2.2.2.1+Int.toNat x.2.2.2.2.1+x.2.2.2.2.2.1.length+Int.toNat x.2.2.2.2.2.2.1+Int.toNat x.2.2.2.2.2.2.2.1+x.2.2.2.2.2.2.2.2.1.length+Int.toNat x.2.2.2.2.2.2.2.2.2.1+Int.toNat x.2.2.2.2.2.2.2.2.2.2.1+1)
def zL0 (x:znj) (y:Unit):Nat:=(Int.toNat x.1+x.2.1.length+Int.toNat x.2.2.1+Int.toNat x.2.2.2.1+x.2.2.2.2.1.length+Int.toNat x.2.2.2.2.2.1+Int.toNat x.2.2.2.2.2.2.1+1)
def zMf (x:znx) (y:Unit):Nat:=(Int.toNat x.1+x.2.1.length+Int.toNat x.2.2.1+Int.toNat x.2.2.2.1+1)
def ziL (zl:yC->Bool×Int):=zbZ base 64 [(114,(zn2 zl))] [] [(3,(kpL [3,13,14,15])),(6,(kpL [3,13,14,15,20,21,22])),(11,(kpL [3,7,8,13,14,15,20,21,22,32,33,34])),(16,(kpL [3,8,13,14,15,20,21,22,45,46,47]))] [(3,1,(kpL [3])),(6,3,(kpL [3,13,14,15])),(11,5,(kpL [3,7,8,13,14,15,20,21,22])),(16,7,(kpL [3,8,13,14,15,20,21,22]))] [(11,spW zLl zPK (zp9 zl) default zJu zJ4),(16,spW zLT z8a (zqm zl) default zJT zJ2),(6,spW zMK z8a (zrI zl) default zLA zL0),(3,spW zMI z8a (zrY zl) default zP6 zMf)] []
theorem zKl (zl:yC->Bool×Int):zD (ziL zl) (lp (body f114) 2):=zq (id:=11) (hl:=rfl)
theorem zKh (zl:yC->Bool×Int):zD (ziL zl) (lp (body f114) 3):=zq (id:=16) (hl:=rfl)
theorem zKB (zl:yC->Bool×Int):zD (ziL zl) (lp (body f114) 1):=zq (id:=6) (hl:=rfl)
theorem zMm (zl:yC->Bool×Int):zD (ziL zl) (lp (body f114) 0):=zq (id:=3) (hl:=rfl)
def zBr (zl:yC->Bool×Int) (a:yC):Wy0 (Int):=.bn (zAx zl (Int.toNat 0+a.length+(Int.ofNat a.length).toNat +Int.toNat 0+1) 0 a (Int.ofNat a.length) 0) λr10=>.k r10
def zoJ (zl:yC->Bool×Int) (a:yC):=(zBr zl a).fin default
theorem zIy (zl:yC->Bool×Int) (zPt:SdP 114 (zn2 zl)):SdP 114 (zn2 (zoJ zl)):=
 sT (cx':=(ziL zl)) (zi ⟨zPt,trivial⟩) call114 func114 (lOK (aC (zMm zl) (aC (zKB zl) (aC (zKl zl) (aC (zKh zl) aN)))))
def z01:Nat->(yC->Bool×Int)
 | 0=>λ_=>(false,default)
 | n+1=>zoJ (z01 n)
def zgc (n:Nat):yC->Bool×Int:=z01 n
theorem zM8 (n:Nat):zgc (n+1)=zoJ (zgc n):=rfl
theorem zTU:∀ n,SdP 114 (zn2 (zgc n))
 | 0=>zba call114 (λ_=>rfl)
 | n+1=>by
  have ih:=zTU n;exact zIy _ (ih)
def zzF:yC->Bool×Int:=zgc 1000
def zAi:Ab.Spec ty:=zn2 zzF
theorem zKC:SdP 114 zAi:=(zTU 1000)
def zIj:=zbq base 13 []
def zyr (f:Fc):Wy0 (Bool):=.i (decide (f.Exp>64)) (.k true) (.k (decide (Int.ofNat f.At.Items.length>1024)))
def zf5 (f:Fc):=(zyr f).fin default
def zKb:AL base (Fc×Unit):=zd (ze (zcx 69)) zp
def zil:=zh zKb λx=>((zf5 x.1).1,zVf (zf5 x.1).2)
theorem zln:SdP 117 zil:=
 sT (cx':=zIj) (zi trivial) call117 func117 (lOK aN)
abbrev zeb:=yD×Unit×Int×Int×Unit
def zi5 (s:yD) (t7:Int) (t8:Int):Wy zeb Unit (Int⊕Unit):=.i (decide (t8<t7)) (.i (decide (0<=t8)&&decide (t8<Int.ofNat s.length)) (.bn (zf5 (FO.mk (At.mk (s.getD t8.toNat default).At.Kind (s.getD t8.toNat default).At.Row (s.getD t8.toNat default).At.Ag (s.getD t8.toNat default).At.Func (s.getD t8.toNat default).At.Items (s.getD t8.toNat default).At.Op (s.getD t8.toNat default).At.Bd) (s.getD t8.toNat default).Exp)) λr0=>.i (r0) (.k (.inl t8)) (.h (s,(),t7,(IntKind.i64.wrap (t8+1)),()) ())) .d) (.k (.inr ()))
def zdu (x:zeb) (y:Unit):=zi5 x.1 x.2.2.1 x.2.2.2.1
def zjc (n:Nat) (s:yD) (t7:Int) (t8:Int):=zH (zdu) (.inl default) n (s,(),t7,t8,()) ()
def zrC (r:Int⊕Unit):LTree ty:=.ite (isL r) (.done .ret [.lit (.int .i64 (getL r))] []) (.done (.exit 0) [] [])
def zsx:LL ty zeb:=za (lSl 69) (za (lFn 117 (zm)) (za zj (za zj zm)))
def zrX (x:zeb) (y:Unit):Nat:=(x.1.length+Int.toNat x.2.2.1+Int.toNat x.2.2.2.1+1)
def zi4:=zbZ base 19 [(117,zil)] [] [(2,(kpL [0,1,7,8]))] [(2,1,[]),(2,0,(kpL [4]))] [(2,spW zsx z8a (zdu) (.inl default) zrC zrX)] []
theorem zry:zD zi4 (lp (body f103) 0):=zq (id:=2) (hl:=rfl)
def zjh (s:yD):Wy0 (Int):=.bn (zjc (s.length+(Int.ofNat s.length).toNat +Int.toNat 0+1) s (Int.ofNat s.length) 0) λr2=>.i (isL r2) (.k (getL r2)) (.k (-1:Int))
def zcR (s:yD):=(zjh s).fin default
def ztb:AL base (yD×Unit×Unit):=zd (ze (vSl 69)) (zd (ze (vFn 117 zbT)) zp)
def zid:=zh ztb λx=>((zcR x.1).1,zOF (zcR x.1).2)
theorem zpN:SdP 103 zid:=
 sT (cx':=zi4) (zi ⟨zln,trivial⟩) call103 func103 (lOK (aC zry aN))
def zpZ:=zbq base 9 [(103,zid),(117,zil)]
def zic (s:yD):Wy0 (Bool):=.bn (zcR s) λr0=>.k (decide (r0≥0))
def zcu (s:yD):=(zic s).fin default
def zgW:=zh ztb λx=>((zcu x.1).1,zVf (zcu x.1).2)
theorem zob:SdP 49 zgW:=
 sT (cx':=zpZ) (zi ⟨zpN,zln,trivial⟩) call49 func49 (lOK aN)
def zNh:=zbq base 12 [(49,zgW),(117,zil)]
def zBg (t:Term):Wy0 (Bool):=.i (decide (Int.ofNat t.Fs.length>64)) (.k true) (.bn (zcu t.Fs) λr0=>.k r0)
def zk1 (t:Term):=(zBg t).fin default
def zPp:AL base (Term×Unit):=zd (ze (zcx 28)) zp
def zj8:=zh zPp λx=>((zk1 x.1).1,zVf (zk1 x.1).2)
theorem znG:SdP 116 zj8:=
 sT (cx':=zNh) (zi ⟨zob,zln,trivial⟩) call116 func116 (lOK aN)
abbrev zd2:=yC×Unit×Int×Int×Unit
def zrP (s:yC) (t7:Int) (t8:Int):Wy zd2 Unit (Int⊕Unit):=.i (decide (t8<t7)) (.i (decide (0<=t8)&&decide (t8<Int.ofNat s.length)) (.bn (zk1 (s.getD t8.toNat default)) λr0=>.i (r0) (.k (.inl t8)) (.h (s,(),t7,(IntKind.i64.wrap (t8+1)),()) ())) .d) (.k (.inr ()))
def ziP (x:zd2) (y:Unit):=zrP x.1 x.2.2.1 x.2.2.2.1
def zrJ (n:Nat) (s:yC) (t7:Int) (t8:Int):=zH (ziP) (.inl default) n (s,(),t7,t8,()) ()
def zrQ:LL ty zd2:=za (lSl 28) (za (lFn 116 (zm)) (za zj (za zj zm)))
def zq8 (x:zd2) (y:Unit):Nat:=(x.1.length+Int.toNat x.2.2.1+Int.toNat x.2.2.2.1+1)
def ziQ:=zbZ base 19 [(116,zj8)] [] [(2,(kpL [0,1,7,8]))] [(2,1,[]),(2,0,(kpL [4]))] [(2,spW zrQ z8a (ziP) (.inl default) zrC zq8)] []
theorem zri:zD ziQ (lp (body f113) 0):=zq (id:=2) (hl:=rfl)
def zs6 (s:yC):Wy0 (Int):=.bn (zrJ (s.length+(Int.ofNat s.length).toNat +Int.toNat 0+1) s (Int.ofNat s.length) 0) λr2=>.i (isL r2) (.k (getL r2)) (.k (-1:Int))
def zdN (s:yC):=(zs6 s).fin default
def zs0:AL base (yC×Unit×Unit):=zd (ze (vSl 28)) (zd (ze (vFn 116 zbT)) zp)
def zhy:=zh zs0 λx=>((zdN x.1).1,zOF (zdN x.1).2)
theorem zpg:SdP 113 zhy:=
 sT (cx':=ziQ) (zi ⟨znG,trivial⟩) call113 func113 (lOK (aC zri aN))
def zpG:=zbq base 9 [(113,zhy),(116,zj8)]
def zhR (s:yC):Wy0 (Bool):=.bn (zdN s) λr0=>.k (decide (r0≥0))
def zcm (s:yC):=(zhR s).fin default
def zgO:=zh zs0 λx=>((zcm x.1).1,zVf (zcm x.1).2)
theorem znI:SdP 59 zgO:=
 sT (cx':=zpG) (zi ⟨zpg,znG,trivial⟩) call59 func59 (lOK aN)
def zTl:=zbq base 19 [(59,zgO),(114,zAi),(115,zEf),(116,zj8)]
def zEM (a:yC):Wy0 (Bool):=.i (decide (Int.ofNat a.length>512)) (.k false) (.bn (zzF a) λr2=>.i (decide (r2>8)) (.k false) (.bn (zCZ a) λr1=>.i (decide (r1>4096)) (.k false) (.bn (zcm a) λr0=>.k (!r0))))
def zla (a:yC):=(zEM a).fin default
def ztd:=zh zWH λx=>((zla x.1).1,zVf (zla x.1).2)
theorem zAh:SdP 62 ztd:=
 sT (cx':=zTl) (zi ⟨znI,zKC,zQY,znG,trivial⟩) call62 func62 (lOK aN)
abbrev zqE:=yC×Unit×yC×Int×Int×yD×Int×Int×Unit
abbrev zEI:=Bool⊕(yC×yC×Int×Int)
abbrev zqF:=yC×yC×Int×Int×Unit
def zjT (zB:At->Bool×Bool) (a:yC) (t10:yC) (t11:Int) (t12:Int) (t40:yD) (t41:Int) (t42:Int) (t:Term):Wy zqE (Term×Unit) zEI:=.i (decide (t42<t41)) (.i (decide (0<=t42)&&decide (t42<Int.ofNat t40.length)) (.i (decide ((t40.getD t42.toNat default).Exp<1)) (.k (.inl false)) (.bn (zfK (At.mk (t40.getD t42.toNat default).At.Kind (t40.getD t42.toNat default).At.Row (t40.getD t42.toNat default).At.Ag (t40.getD t42.toNat default).At.Func (t40.getD t42.toNat default).At.Items (t40.getD t42.toNat default).At.Op (t40.getD t42.toNat default).At.Bd)) λr6=>.i (r6) (.i ((t40.getD t42.toNat default).Exp != 1) (.k (.inl false)) (.i (decide (t42>0)) (.i (decide (0<=IntKind.i64.wrap (t42 - 1))&&decide (IntKind.i64.wrap (t42 - 1)<Int.ofNat t.Fs.length)) (.bn (ziI (At.mk (t.Fs.getD (IntKind.i64.wrap (t42 - 1)).toNat default).At.Kind (t.Fs.getD (IntKind.i64.wrap (t42 - 1)).toNat default).At.Row (t.Fs.getD (IntKind.i64.wrap (t42 - 1)).toNat default).At.Ag (t.Fs.getD (IntKind.i64.wrap (t42 - 1)).toNat default).At.Func (t.Fs.getD (IntKind.i64.wrap (t42 - 1)).toNat default).At.Items (t.Fs.getD (IntKind.i64.wrap (t42 - 1)).toNat default).At.Op (t.Fs.getD (IntKind.i64.wrap (t42 - 1)).toNat default).At.Bd) (At.mk (t40.getD t42.toNat default).At.Kind (t40.getD t42.toNat default).At.Row (t40.getD t42.toNat default).At.Ag (t40.getD t42.toNat default).At.Func (t40.getD t42.toNat default).At.Items (t40.getD t42.toNat default).At.Op (t40.getD t42.toNat default).At.Bd)) λr1=>.i (decide (r1≥0)) (.k (.inl false)) (.bn (zB (At.mk (t40.getD t42.toNat default).At.Kind (t40.getD t42.toNat default).At.Row (t40.getD t42.toNat default).At.Ag (t40.getD t42.toNat default).At.Func (t40.getD t42.toNat default).At.Items (t40.getD t42.toNat default).At.Op (t40.getD t42.toNat default).At.Bd)) λr0=>.i (!r0) (.k (.inl false)) (.h (a,(),t10,t11,t12,t40,t41,(IntKind.i64.wrap (t42+1)),()) (t,())))) .d) (.bn (zB (At.mk (t40.getD t42.toNat default).At.Kind (t40.getD t42.toNat default).At.Row (t40.getD t42.toNat default).At.Ag (t40.getD t42.toNat default).At.Func (t40.getD t42.toNat default).At.Items (t40.getD t42.toNat default).At.Op (t40.getD t42.toNat default).At.Bd)) λr2=>.i (!r2) (.k (.inl false)) (.h (a,(),t10,t11,t12,t40,t41,(IntKind.i64.wrap (t42+1)),()) (t,()))))) (.i (decide (t42>0)) (.i (decide (0<=IntKind.i64.wrap (t42 - 1))&&decide (IntKind.i64.wrap (t42 - 1)<Int.ofNat t.Fs.length)) (.bn (ziI (At.mk (t.Fs.getD (IntKind.i64.wrap (t42 - 1)).toNat default).At.Kind (t.Fs.getD (IntKind.i64.wrap (t42 - 1)).toNat default).At.Row (t.Fs.getD (IntKind.i64.wrap (t42 - 1)).toNat default).At.Ag (t.Fs.getD (IntKind.i64.wrap (t42 - 1)).toNat default).At.Func (t.Fs.getD (IntKind.i64.wrap (t42 - 1)).toNat default).At.Items (t.Fs.getD (IntKind.i64.wrap (t42 - 1)).toNat default).At.Op (t.Fs.getD (IntKind.i64.wrap (t42 - 1)).toNat default).At.Bd) (At.mk (t40.getD t42.toNat default).At.Kind (t40.getD t42.toNat default).At.Row (t40.getD t42.toNat default).At.Ag (t40.getD t42.toNat default).At.Func (t40.getD t42.toNat default).At.Items (t40.getD t42.toNat default).At.Op (t40.getD t42.toNat default).At.Bd)) λr4=>.i (decide (r4≥0)) (.k (.inl false)) (.bn (zB (At.mk (t40.getD t42.toNat default).At.Kind (t40.getD t42.toNat default).At.Row (t40.getD t42.toNat default).At.Ag (t40.getD t42.toNat default).At.Func (t40.getD t42.toNat default).At.Items (t40.getD t42.toNat default).At.Op (t40.getD t42.toNat default).At.Bd)) λr3=>.i (!r3) (.k (.inl false)) (.h (a,(),t10,t11,t12,t40,t41,(IntKind.i64.wrap (t42+1)),()) (t,())))) .d) (.bn (zB (At.mk (t40.getD t42.toNat default).At.Kind (t40.getD t42.toNat default).At.Row (t40.getD t42.toNat default).At.Ag (t40.getD t42.toNat default).At.Func (t40.getD t42.toNat default).At.Items (t40.getD t42.toNat default).At.Op (t40.getD t42.toNat default).At.Bd)) λr5=>.i (!r5) (.k (.inl false)) (.h (a,(),t10,t11,t12,t40,t41,(IntKind.i64.wrap (t42+1)),()) (t,())))))) .d) (.k (.inr (a,t10,t11,t12)))
def zux (zB:At->Bool×Bool) (x:zqE) (y:Term×Unit):=zjT zB x.1 x.2.2.1 x.2.2.2.1 x.2.2.2.2.1 x.2.2.2.2.2.1 x.2.2.2.2.2.2.1 x.2.2.2.2.2.2.2.1 y.1
def zuX (zB:At->Bool×Bool) (n:Nat) (a:yC) (t10:yC) (t11:Int) (t12:Int) (t40:yD) (t41:Int) (t42:Int) (t:Term):=zH (zux zB) (.inl default) n (a,(),t10,t11,t12,t40,t41,t42,()) (t,())
def zOD (r:zEI):LTree ty:=.ite (isL r) (.done .ret [.lit (.bool (getL r))] []) (.done (.exit 2) [.sl 28 (getR r).1,.sl 28 (getR r).2.1,.lit (.int .i64 (getR r).2.2.1),.lit (.int .i64 (getR r).2.2.2)] [])
def zQb:LL ty zqE:=za (lSl 28) (za (zfa 340 0) (za (lSl 28) (za zj (za zj (za (lSl 69) (za zj (za zj zm)))))))
def zRb:BL ty (Term×Unit):=ziw (zgt (λx=>(⟨x.1,x.2.1⟩:Term)) (λx=>(x.Cf,x.Fs,())) (λ_=>rfl) (za (zO .i64) (za (lSl 69) zm))) false (zbg)
def zj0 (zB:At->Bool×Bool) (a:yC) (t10:yC) (t11:Int) (t12:Int):Wy zqF Unit (Bool⊕Unit):=.i (decide (t12<t11)) (.i (decide (0<=t12)&&decide (t12<Int.ofNat t10.length)) (.i (decide ((t10.getD t12.toNat default).Cf<1)) (.k (.inl false)) (.i (decide ((t10.getD t12.toNat default).Cf>1152921504606846976)) (.k (.inl false)) (.i (decide (t12>0)) (.i (decide (0<=IntKind.i64.wrap (t12 - 1))&&decide (IntKind.i64.wrap (t12 - 1)<Int.ofNat a.length)) (.bn (zcl (a.getD (IntKind.i64.wrap (t12 - 1)).toNat default) (t10.getD t12.toNat default)) λr15=>.i (decide (r15≥0)) (.k (.inl false)) (.bn (zuX zB (a.length+t10.length+t11.toNat +t12.toNat +(t10.getD t12.toNat default).Fs.length+(Int.ofNat (t10.getD t12.toNat default).Fs.length).toNat +Int.toNat 0+(t10.getD t12.toNat default).Fs.length+1) a t10 t11 t12 (t10.getD t12.toNat default).Fs (Int.ofNat (t10.getD t12.toNat default).Fs.length) 0 (t10.getD t12.toNat default)) λr14=>.i (isL r14) (.k (.inl (getL r14))) (.h ((getR r14).1,(getR r14).2.1,(getR r14).2.2.1,(IntKind.i64.wrap ((getR r14).2.2.2+1)),()) ()))) .d) (.bn (zuX zB (a.length+t10.length+t11.toNat +t12.toNat +(t10.getD t12.toNat default).Fs.length+(Int.ofNat (t10.getD t12.toNat default).Fs.length).toNat +Int.toNat 0+(t10.getD t12.toNat default).Fs.length+1) a t10 t11 t12 (t10.getD t12.toNat default).Fs (Int.ofNat (t10.getD t12.toNat default).Fs.length) 0 (t10.getD t12.toNat default)) λr16=>.i (isL r16) (.k (.inl (getL r16))) (.h ((getR r16).1,(getR r16).2.1,(getR r16).2.2.1,(IntKind.i64.wrap ((getR r16).2.2.2+1)),()) ()))))) .d) (.k (.inr ()))
def zuM (zB:At->Bool×Bool) (x:zqF) (y:Unit):=zj0 zB x.1 x.2.1 x.2.2.1 x.2.2.2.1
def zCc (zB:At->Bool×Bool) (n:Nat) (a:yC) (t10:yC) (t11:Int) (t12:Int):=zH (zuM zB) (.inl default) n (a,t10,t11,t12,()) ()
def zOn (r:Bool⊕Unit):LTree ty:=.ite (isL r) (.done .ret [.lit (.bool (getL r))] []) (.done (.exit 0) [] [])
def zRk:LL ty zqF:=za (lSl 28) (za (lSl 28) (za zj (za zj zm)))
def zPh (x:zqE) (y:Term×Unit):Nat:=(x.1.length+x.2.2.1.length+Int.toNat x.2.2.2.1+Int.toNat x.2.2.2.2.1+x.2.2.2.2.2.1.length+Int.toNat x.2.2.2.2.2.2.1+Int.toNat x.2.2.2.2.2.2.2.1+y.1.Fs.length+1)
def zOf (x:zqF) (y:Unit):Nat:=(x.1.length+x.2.1.length+Int.toNat x.2.2.1+Int.toNat x.2.2.2.1+1)
def zuB (zB:At->Bool×Bool):=zbZ base 85 [(62,ztd),(63,zin),(64,zjz),(65,zlY),(66,(zmh zB))] [] [(4,(kpL [0,10,11,12])),(9,(kpL [0,4,10,11,12,40,41,42]))] [(4,1,[]),(4,0,(kpL [2])),(9,3,(kpL [0,10,11,12])),(9,0,(kpL [2]))] [(9,spW zQb zRb (zux zB) (.inl default) zOD zPh),(4,spW zRk z8a (zuM zB) (.inl default) zOn zOf)] []
theorem zO5 (zB:At->Bool×Bool):zD (zuB zB) (lp (body f20) 1):=zq (id:=9) (hl:=rfl)
theorem zPx (zB:At->Bool×Bool):zD (zuB zB) (lp (body f20) 0):=zq (id:=4) (hl:=rfl)
def zEe (zB:At->Bool×Bool) (a:yC):Wy0 (Bool):=.bn (zla a) λr21=>.i (!r21) (.k false) (.bn (zCc zB (a.length+a.length+(Int.ofNat a.length).toNat +Int.toNat 0+1) a a (Int.ofNat a.length) 0) λr20=>.i (isL r20) (.k (getL r20)) (.k true))
def zmQ (zB:At->Bool×Bool) (a:yC):=(zEe zB a).fin default
theorem zKR (zB:At->Bool×Bool) (zKM:SdP 66 (zmh zB)):SdP 20 (zhO (zmQ zB)):=
 sT (cx':=(zuB zB)) (zi ⟨zAh,zlr,zmD,ztS,zKM,trivial⟩) call20 func20 (lOK (aC (zPx zB) (aC (zO5 zB) aN)))
def zVm:=zbq base 9 [(67,zAe)]
def zGL (a:yC) (b:yC):Wy0 (Bool):=.bn (zzz a b) λr0=>.k (r0==0)
def zhL (a:yC) (b:yC):=(zGL a b).fin default
def zny:=zh zSZ λx=>((zhL x.1 x.2.1).1,zVf (zhL x.1 x.2.1).2)
theorem ztp:SdP 21 zny:=
 sT (cx':=zVm) (zi ⟨zLE,trivial⟩) call21 func21 (lOK aN)
def z5K:=zbq base 36 []
def zUd (v:Value):Wy0 (Bool):=.i (v.Kind==0) (.k (v.Text.toList==(ByteArray.mk #[]).toList)) (.i (v.Kind==1) (.i (v.Int==0) (.k (decide (Int.ofNat v.Text.size<=255))) (.k false)) (.i (v.Kind==2) (.i (v.Int==0) (.k (v.Text.toList==(ByteArray.mk #[]).toList)) (.i (v.Int==1) (.k (v.Text.toList==(ByteArray.mk #[]).toList)) (.k false))) (.k false)))
def zto (v:Value):=(zUd v).fin default
def z8z:AL base (Value×Unit):=zd (ze (zcx 65)) zp
def zww:=zh z8z λx=>((zto x.1).1,zVf (zto x.1).2)
theorem zAA:SdP 164 zww:=
 sT (cx':=z5K) (zi trivial) call164 func164 (lOK aN)
def zLV:=zbq base 27 [(164,zww)]
def zAl (w:Wd) (p1:Value) (p2:Int):Wy0 (Bool):=.bn (zto w.Value) λr0=>.i (!r0) (.k true) (.i (w.Value.Kind != p1.Kind) (.k true) (.i (p2==0) (.k (w.Value.Int != 1)) (.k false)))
def zhi (w:Wd) (p1:Value) (p2:Int):=(zAl w p1 p2).fin default
def zML:AL base (Wd×Value×(Int×Unit)×Unit):=zd (ze (zcx 100)) (zd (ze (zx7 65)) (zd (ze (ztA (zdv zha zbT))) zp))
def zjA:=zh zML λx=>((zhi x.1 x.2.1 x.2.2.1.1).1,zVf (zhi x.1 x.2.1 x.2.2.1.1).2)
theorem zmx:SdP 165 zjA:=
 sT (cx':=zLV) (zi ⟨zAA,trivial⟩) call165 func165 (lOK aN)
abbrev zdD:=yE×(Value×(Int×Unit)×Unit)×Int×Int×Unit
def zpt (s:yE) (f_0:Value) (f_1:Int) (t7:Int) (t8:Int):Wy zdD Unit (Int⊕Unit):=.i (decide (t8<t7)) (.i (decide (0<=t8)&&decide (t8<Int.ofNat s.length)) (.bn (zhi (s.getD t8.toNat default) f_0 f_1) λr0=>.i (r0) (.k (.inl t8)) (.h (s,(f_0,(f_1,()),()),t7,(IntKind.i64.wrap (t8+1)),()) ())) .d) (.k (.inr ()))
def zhp (x:zdD) (y:Unit):=zpt x.1 x.2.1.1 x.2.1.2.1.1 x.2.2.1 x.2.2.2.1
def zpA (n:Nat) (s:yE) (f_0:Value) (f_1:Int) (t7:Int) (t8:Int):=zH (zhp) (.inl default) n (s,(f_0,(f_1,()),()),t7,t8,()) ()
def zpi:LL ty zdD:=za (lSl 100) (za (lFn 165 (za (zmY (zgt (λx=>(⟨x.1,x.2.1,x.2.2.1⟩:Value)) (λx=>(x.Kind,x.Int,x.Text,())) (λ_=>rfl) (za zj (za zj (za zp3 zm)))) 0) (za (zmY (za zj zm) 0) zm))) (za zj (za zj zm)))
def zo2 (x:zdD) (y:Unit):Nat:=(x.1.length+Int.toNat x.2.1.2.1.1+Int.toNat x.2.2.1+Int.toNat x.2.2.2.1+1)
def zhg:=zbZ base 19 [(165,zjA)] [] [(2,(kpL [0,1,7,8]))] [(2,1,[]),(2,0,(kpL [4]))] [(2,spW zpi z8a (zhp) (.inl default) zrC zo2)] []
theorem zoD:zD zhg (lp (body f163) 0):=zq (id:=2) (hl:=rfl)
def zp5 (s:yE) (f_0:Value) (f_1:Int):Wy0 (Int):=.bn (zpA (s.length+f_1.toNat +(Int.ofNat s.length).toNat +Int.toNat 0+1) s f_0 f_1 (Int.ofNat s.length) 0) λr2=>.i (isL r2) (.k (getL r2)) (.k (-1:Int))
def zdm (s:yE) (f_0:Value) (f_1:Int):=(zp5 s f_0 f_1).fin default
def zqA:AL base (yE×(Value×(Int×Unit)×Unit)×Unit):=zd (ze (vSl 100)) (zd (ze (vFn 165 (zdv (zx7 65) (zdv (ztA (zdv zha zbT)) zbT)))) zp)
def zgI:=zh zqA λx=>((zdm x.1 x.2.1.1 x.2.1.2.1.1).1,zOF (zdm x.1 x.2.1.1 x.2.1.2.1.1).2)
theorem znP:SdP 163 zgI:=
 sT (cx':=zhg) (zi ⟨zmx,trivial⟩) call163 func163 (lOK (aC zoD aN))
def znR:=zbq base 9 [(163,zgI),(165,zjA)]
def zgG (s:yE) (f_0:Value) (f_1:Int):Wy0 (Bool):=.bn (zdm s f_0 f_1) λr0=>.k (decide (r0≥0))
def zbz (s:yE) (f_0:Value) (f_1:Int):=(zgG s f_0 f_1).fin default
def zfU:=zh zqA λx=>((zbz x.1 x.2.1.1 x.2.1.2.1.1).1,zVf (zbz x.1 x.2.1.1 x.2.1.2.1.1).2)
theorem zmp:SdP 132 zfU:=
 sT (cx':=znR) (zi ⟨znP,zmx,trivial⟩) call132 func132 (lOK aN)
def zPI:=zbq base 43 [(132,zfU),(164,zww),(165,zjA)]
def zDJ (fn:Int) (items:yE) (op:Int) (bound:Value):Wy0 (Bool):=.i (decide (fn<0)) (.k false) (.i (decide (fn>3)) (.k false) (.i (decide (op<5)) (.k false) (.i (decide (op>10)) (.k false) (.bn (zto bound) λr3=>.i (!r3) (.k false) (.i (fn==0) (.i (bound.Kind != 0) (.k false) (.bn (zbz items bound fn) λr0=>.k (!r0))) (.i (fn==1) (.i (bound.Kind != 0) (.k false) (.bn (zbz items bound fn) λr1=>.k (!r1))) (.bn (zbz items bound fn) λr2=>.k (!r2))))))))
def zj1 (fn:Int) (items:yE) (op:Int) (bound:Value):=(zDJ fn items op bound).fin default
def zSj:AL base (Int×yE×Int×Value×Unit):=zd (ze zha) (zd (ze (vSl 100)) (zd (ze zha) (zd (ze (zcx 65)) zp)))
def zrK:=zh zSj λx=>((zj1 x.1 x.2.1 x.2.2.1 x.2.2.2.1).1,zVf (zj1 x.1 x.2.1 x.2.2.1 x.2.2.2.1).2)
theorem zy7:SdP 135 zrK:=
 sT (cx':=zPI) (zi ⟨zmp,zAA,zmx,trivial⟩) call135 func135 (lOK aN)
def zE7:=zbq base 7 []
def zvM (t:Term):Wy0 (Bool):=.k (Int.ofNat t.Fs.length==0)
def zg8 (t:Term):=(zvM t).fin default
def zg4:=zh zPp λx=>((zg8 x.1).1,zVf (zg8 x.1).2)
theorem zkk:SdP 162 zg4:=
 sT (cx':=zE7) (zi trivial) call162 func162 (lOK aN)
abbrev zd0:=yC×Unit×Int×Int×Unit
def zrx (s:yC) (t7:Int) (t8:Int):Wy zd0 Unit (Int⊕Unit):=.i (decide (t8<t7)) (.i (decide (0<=t8)&&decide (t8<Int.ofNat s.length)) (.i ((zg8 (s.getD t8.toNat default)).2) (.k (.inl t8)) (.h (s,(),t7,(IntKind.i64.wrap (t8+1)),()) ())) .d) (.k (.inr ()))
def ziC (x:zd0) (y:Unit):=zrx x.1 x.2.2.1 x.2.2.2.1
def zrr (n:Nat) (s:yC) (t7:Int) (t8:Int):=zH (ziC) (.inl default) n (s,(),t7,t8,()) ()
def zrG:LL ty zd0:=za (lSl 28) (za (lFn 162 (zm)) (za zj (za zj zm)))
def zq2 (x:zd0) (y:Unit):Nat:=(x.1.length+Int.toNat x.2.2.1+Int.toNat x.2.2.2.1+1)
def ziK:=zbZ base 19 [(162,zg4)] [] [(2,(kpL [0,1,7,8]))] [(2,1,[]),(2,0,(kpL [4]))] [(2,spW zrG z8a (ziC) (.inl default) zrC zq2)] []
theorem zqL:zD ziK (lp (body f113) 0):=zq (id:=2) (hl:=rfl)
def zs9 (s:yC):Wy0 (Int):=.bn (zrr (s.length+(Int.ofNat s.length).toNat +Int.toNat 0+1) s (Int.ofNat s.length) 0) λr0=>.i (isL r0) (.k (getL r0)) (.k (-1:Int))
def zdO (s:yC):=(zs9 s).fin default
def zs8:AL base (yC×Unit×Unit):=zd (ze (vSl 28)) (zd (ze (vFn 162 zbT)) zp)
def zhI:=zh zs8 λx=>((zdO x.1).1,zOF (zdO x.1).2)
theorem zpo:SdP 113 zhI:=
 sT (cx':=ziK) (zi ⟨zkk,trivial⟩) call113 func113 (lOK (aC zqL aN))
def zpJ:=zbq base 9 [(113,zhI),(162,zg4)]
def zhE (s:yC):Wy0 (Bool):=.bn (zdO s) λr0=>.k (decide (r0≥0))
def zdk (s:yC):=(zhE s).fin default
def zgL:=zh zs8 λx=>((zdk x.1).1,zVf (zdk x.1).2)
theorem znS:SdP 59 zgL:=
 sT (cx':=zpJ) (zi ⟨zpo,zkk,trivial⟩) call59 func59 (lOK aN)
def zJ1:=zbq base 5 [(59,zgL),(162,zg4)]
def zzx (a:yC):Wy0 (Bool):=.bn (zdk a) λr0=>.k r0
def ze3 (a:yC):=(zzx a).fin default
def zmL:=zh zWH λx=>((ze3 x.1).1,zVf (ze3 x.1).2)
theorem zu2:SdP 131 zmL:=
 sT (cx':=zJ1) (zi ⟨znS,zkk,trivial⟩) call131 func131 (lOK aN)
def zLa:=zbq base 14 []
def zAg (a:yC):Wy0 (Bool):=.i (Int.ofNat a.length==1) (.i (decide ((0:Int)<=(0:Int))&&decide (0<Int.ofNat a.length)) (.k (Int.ofNat (a.getD (Int.toNat 0) default).Fs.length==0)) .d) (.k false)
def zhh (a:yC):=(zAg a).fin default
def znO:=zh zWH λx=>((zhh x.1).1,zVf (zhh x.1).2)
theorem zvL:SdP 129 znO:=
 sT (cx':=zLa) (zi trivial) call129 func129 (lOK aN)
def zSK:=zbq base 42 [(64,zjz)]
def zEP (a:yC):Wy0 (Bool):=.i (Int.ofNat a.length != 1) (.k false) (.i (decide ((0:Int)<=(0:Int))&&decide (0<Int.ofNat a.length)) (.i ((a.getD (Int.toNat 0) default).Cf != 1) (.k false) (.i (decide ((0:Int)<=(0:Int))&&decide (0<Int.ofNat a.length)) (.i (Int.ofNat (a.getD (Int.toNat 0) default).Fs.length != 1) (.k false) (.i (decide ((0:Int)<=(0:Int))&&decide (0<Int.ofNat a.length)) (.i (decide ((0:Int)<=(0:Int))&&decide (0<Int.ofNat (a.getD (Int.toNat 0) default).Fs.length)) (.i (((a.getD (Int.toNat 0) default).Fs.getD (Int.toNat 0) default).Exp==1) (.i (((a.getD (Int.toNat 0) default).Fs.getD (Int.toNat 0) default).At.Kind==2) (.k true) (.bn (zfK (At.mk ((a.getD (Int.toNat 0) default).Fs.getD (Int.toNat 0) default).At.Kind ((a.getD (Int.toNat 0) default).Fs.getD (Int.toNat 0) default).At.Row ((a.getD (Int.toNat 0) default).Fs.getD (Int.toNat 0) default).At.Ag ((a.getD (Int.toNat 0) default).Fs.getD (Int.toNat 0) default).At.Func ((a.getD (Int.toNat 0) default).Fs.getD (Int.toNat 0) default).At.Items ((a.getD (Int.toNat 0) default).Fs.getD (Int.toNat 0) default).At.Op ((a.getD (Int.toNat 0) default).Fs.getD (Int.toNat 0) default).At.Bd)) λr0=>.k r0)) (.k false)) .d) .d)) .d)) .d)
def zld (a:yC):=(zEP a).fin default
def ztI:=zh zWH λx=>((zld x.1).1,zVf (zld x.1).2)
theorem zAt:SdP 130 ztI:=
 sT (cx':=zSK) (zi ⟨zmD,trivial⟩) call130 func130 (lOK aN)
def z4E:=zbq base 11 []
def zQP (id:RowID):Wy0 (Bool):=.i (decide (id.Table≥1)) (.k (decide (id.Seq≥1))) (.k false)
def zp0 (id:RowID):=(zQP id).fin default
def z5M:AL base (RowID×Unit):=zd (ze (zcx 49)) zp
def zuj:=zh z5M λx=>((zp0 x.1).1,zVf (zp0 x.1).2)
theorem zzG:SdP 128 zuj:=
 sT (cx':=z4E) (zi trivial) call128 func128 (lOK aN)
abbrev zeF:=yE×Unit×Int×Unit
def zeg (x_:yE) (i:Int):Wy zeF Unit (Bool⊕Unit):=.i (decide (i>0)) (.i (decide (0<=i)&&decide (i<Int.ofNat x_.length)) (.i (decide (0<=IntKind.i64.wrap (i - 1))&&decide (IntKind.i64.wrap (i - 1)<Int.ofNat x_.length)) (.bn (zbA (x_.getD i.toNat default) (x_.getD (IntKind.i64.wrap (i - 1)).toNat default)) λr0=>.i (decide (r0<0)) (.k (.inl false)) (.h (x_,(),(IntKind.i64.wrap (i - 1)),()) ())) .d) .d) (.k (.inr ()))
def zhm (x:zeF) (y:Unit):=zeg x.1 x.2.2.1
def zeh (n:Nat) (x_:yE) (i:Int):=zH (zhm) (.inl default) n (x_,(),i,()) ()
def zpv:LL ty zeF:=za (lSl 100) (za (lFn 124 (zm)) (za zj zm))
def zho:=zbZ base 25 [(124,zfG)] [] [(2,(kpL [0,1,5]))] [(2,1,[]),(2,0,(kpL [4]))] [(2,spW zpv z8a (zhm) (.inl default) zOn λx y=>(x.1.length+Int.toNat x.2.2.1+1))] []
theorem zo6:zD zho (lp (body f134) 0):=zq (id:=2) (hl:=rfl)
def zhA (x_:yE):Wy0 (Bool):=.bn (zeh (x_.length+(IntKind.i64.wrap (Int.ofNat x_.length - 1)).toNat +1) x_ (IntKind.i64.wrap (Int.ofNat x_.length - 1))) λr2=>.i (isL r2) (.k (getL r2)) (.k true)
def zck (x_:yE):=(zhA x_).fin default
def zqy:AL base (yE×Unit×Unit):=zd (ze (vSl 100)) (zd (ze (vFn 124 zbT)) zp)
def zgK:=zh zqy λx=>((zck x.1).1,zVf (zck x.1).2)
theorem znB:SdP 134 zgK:=
 sT (cx':=zho) (zi ⟨zht,trivial⟩) call134 func134 (lOK (aC zo6 aN))
def zcS (zb:yA->Bool×Bool) (zg:yC->Bool×Bool) (zc:yE->Bool×Bool) (zf:Wd->Bool×Bool):=zbq base 149 [(21,zny),(124,zfG),(126,(zcr zb)),(127,(zhO zg)),(128,zuj),(129,znO),(130,ztI),(131,zmL),(132,(zcI zc)),(133,(zdq zf)),(134,zgK),(135,zrK)]
def zcc (zb:yA->Bool×Bool) (zg:yC->Bool×Bool) (zc:yE->Bool×Bool) (zf:Wd->Bool×Bool) (x_:At):Wy0 (Bool):=.i (x_.Kind==0) (.i (x_.Func != 0) (.k false) (.i (Int.ofNat x_.Items.length != 0) (.k false) (.i (x_.Op != 0) (.k false) (.i (!(x_.Bd.Kind==0&&(x_.Bd.Int==0&&(x_.Bd.Text.toList==(ByteArray.mk #[]).toList&&true)))) (.k false) (.bn (zb x_.Ag) λr1=>.i (r1) (.k false) (.bn (zp0 x_.Row) λr0=>.i (r0) (.k (Int.ofNat x_.Ag.length==0)) (.k false))))))) (.i (x_.Kind==1) (.i (x_.Func != 0) (.k false) (.i (Int.ofNat x_.Items.length != 0) (.k false) (.i (x_.Op != 0) (.k false) (.i (!(x_.Bd.Kind==0&&(x_.Bd.Int==0&&(x_.Bd.Text.toList==(ByteArray.mk #[]).toList&&true)))) (.k false) (.i (!(x_.Row.Table==0&&(x_.Row.Seq==0&&true))) (.k false) (.bn (zb x_.Ag) λr3=>.i (r3) (.k false) (.i (Int.ofNat x_.Ag.length==2) (.i (decide ((0:Int)<=(0:Int))&&decide (0<Int.ofNat x_.Ag.length)) (.i (decide ((0:Int)<=(1:Int))&&decide (1<Int.ofNat x_.Ag.length)) (.bn (zhL (x_.Ag.getD (Int.toNat 0) default) (x_.Ag.getD (Int.toNat 1) default)) λr2=>.k (!r2)) .d) .d) (.k false)))))))) (.i (x_.Kind==2) (.i (x_.Func != 0) (.k false) (.i (Int.ofNat x_.Items.length != 0) (.k false) (.i (x_.Op != 0) (.k false) (.i (!(x_.Bd.Kind==0&&(x_.Bd.Int==0&&(x_.Bd.Text.toList==(ByteArray.mk #[]).toList&&true)))) (.k false) (.i (!(x_.Row.Table==0&&(x_.Row.Seq==0&&true))) (.k false) (.bn (zb x_.Ag) λr6=>.i (r6) (.k false) (.i (Int.ofNat x_.Ag.length==1) (.i (decide ((0:Int)<=(0:Int))&&decide (0<Int.ofNat x_.Ag.length)) (.bn (zhh (x_.Ag.getD (Int.toNat 0) default)) λr5=>.i (!r5) (.i (decide ((0:Int)<=(0:Int))&&decide (0<Int.ofNat x_.Ag.length)) (.bn (zld (x_.Ag.getD (Int.toNat 0) default)) λr4=>.k (!r4)) .d) (.k false)) .d) (.k false)))))))) (.i (x_.Kind==3) (.i (x_.Func != 0) (.k false) (.i (Int.ofNat x_.Items.length != 0) (.k false) (.i (x_.Op != 0) (.k false) (.i (!(x_.Bd.Kind==0&&(x_.Bd.Int==0&&(x_.Bd.Text.toList==(ByteArray.mk #[]).toList&&true)))) (.k false) (.i (!(x_.Row.Table==0&&(x_.Row.Seq==0&&true))) (.k false) (.bn (zb x_.Ag) λr8=>.i (r8) (.k false) (.i (Int.ofNat x_.Ag.length==1) (.i (decide ((0:Int)<=(0:Int))&&decide (0<Int.ofNat x_.Ag.length)) (.bn (ze3 (x_.Ag.getD (Int.toNat 0) default)) λr7=>.k (!r7)) .d) (.k false)))))))) (.i (x_.Kind==4) (.i (!(x_.Row.Table==0&&(x_.Row.Seq==0&&true))) (.k false) (.bn (zb x_.Ag) λr12=>.i (r12) (.k false) (.bn (zc x_.Items) λr11=>.i (Int.ofNat x_.Ag.length==0) (.i (decide (Int.ofNat x_.Items.length>0)) (.i (!r11) (.bn (zck x_.Items) λr10=>.i (r10) (.bn (zj1 x_.Func x_.Items x_.Op x_.Bd) λr9=>.k r9) (.k false)) (.k false)) (.k false)) (.k false)))) (.i (x_.Func != 0) (.k false) (.i (Int.ofNat x_.Items.length != 0) (.k false) (.i (x_.Op != 0) (.k false) (.i (!(x_.Bd.Kind==0&&(x_.Bd.Int==0&&(x_.Bd.Text.toList==(ByteArray.mk #[]).toList&&true)))) (.k false) (.i (!(x_.Row.Table==0&&(x_.Row.Seq==0&&true))) (.k false) (.bn (zb x_.Ag) λr14=>.i (r14) (.k false) (.k false)))))))))))
def zjw (zb:yA->Bool×Bool) (zg:yC->Bool×Bool) (zc:yE->Bool×Bool) (zf:Wd->Bool×Bool) (x_:At):=(zcc zb zg zc zf x_).fin default
theorem zHE (zb:yA->Bool×Bool) (zg:yC->Bool×Bool) (zc:yE->Bool×Bool) (zf:Wd->Bool×Bool) (v_Row:RowID) (v_Args:yA) (v_Func:Int) (v_Items:yE) (v_Op:Int) (v_Bound:Value)  :zgd (zcS zb zg zc zf) f66 (body f66) ⟨[.pure],[]⟩ [.pure (.agg (base.enc 67 (At.mk (Int.ofNat 0) v_Row v_Args v_Func v_Items v_Op v_Bound)))]=(zcc zb zg zc zf (At.mk (Int.ofNat 0) v_Row v_Args v_Func v_Items v_Op v_Bound)).ev noH (λr=>some (zVf r)) none:=by kernel_rfl
theorem zG1 (zb:yA->Bool×Bool) (zg:yC->Bool×Bool) (zc:yE->Bool×Bool) (zf:Wd->Bool×Bool) (v_Row:RowID) (v_Args:yA) (v_Func:Int) (v_Items:yE) (v_Op:Int) (v_Bound:Value)  :zgd (zcS zb zg zc zf) f66 (body f66) ⟨[.pure],[]⟩ [.pure (.agg (base.enc 67 (At.mk (Int.ofNat 1) v_Row v_Args v_Func v_Items v_Op v_Bound)))]=(zcc zb zg zc zf (At.mk (Int.ofNat 1) v_Row v_Args v_Func v_Items v_Op v_Bound)).ev noH (λr=>some (zVf r)) none:=by kernel_rfl
theorem zGA (zb:yA->Bool×Bool) (zg:yC->Bool×Bool) (zc:yE->Bool×Bool) (zf:Wd->Bool×Bool) (v_Row:RowID) (v_Args:yA) (v_Func:Int) (v_Items:yE) (v_Op:Int) (v_Bound:Value)  :zgd (zcS zb zg zc zf) f66 (body f66) ⟨[.pure],[]⟩ [.pure (.agg (base.enc 67 (At.mk (Int.ofNat 2) v_Row v_Args v_Func v_Items v_Op v_Bound)))]=(zcc zb zg zc zf (At.mk (Int.ofNat 2) v_Row v_Args v_Func v_Items v_Op v_Bound)).ev noH (λr=>some (zVf r)) none:=by kernel_rfl
theorem zHm (zb:yA->Bool×Bool) (zg:yC->Bool×Bool) (zc:yE->Bool×Bool) (zf:Wd->Bool×Bool) (v_Row:RowID) (v_Args:yA) (v_Func:Int) (v_Items:yE) (v_Op:Int) (v_Bound:Value)  :zgd (zcS zb zg zc zf) f66 (body f66) ⟨[.pure],[]⟩ [.pure (.agg (base.enc 67 (At.mk (Int.ofNat 3) v_Row v_Args v_Func v_Items v_Op v_Bound)))]=(zcc zb zg zc zf (At.mk (Int.ofNat 3) v_Row v_Args v_Func v_Items v_Op v_Bound)).ev noH (λr=>some (zVf r)) none:=by kernel_rfl
theorem zHC (zb:yA->Bool×Bool) (zg:yC->Bool×Bool) (zc:yE->Bool×Bool) (zf:Wd->Bool×Bool) (v_Row:RowID) (v_Args:yA) (v_Func:Int) (v_Items:yE) (v_Op:Int) (v_Bound:Value)  :zgd (zcS zb zg zc zf) f66 (body f66) ⟨[.pure],[]⟩ [.pure (.agg (base.enc 67 (At.mk (Int.ofNat 4) v_Row v_Args v_Func v_Items v_Op v_Bound)))]=(zcc zb zg zc zf (At.mk (Int.ofNat 4) v_Row v_Args v_Func v_Items v_Op v_Bound)).ev noH (λr=>some (zVf r)) none:=by kernel_rfl
theorem zGK (zb:yA->Bool×Bool) (zg:yC->Bool×Bool) (zc:yE->Bool×Bool) (zf:Wd->Bool×Bool) (n:Nat) (v_Row:RowID) (v_Args:yA) (v_Func:Int) (v_Items:yE) (v_Op:Int) (v_Bound:Value)  :zgd (zcS zb zg zc zf) f66 (body f66) ⟨[.pure],[]⟩ [.pure (.agg (base.enc 67 (At.mk (Int.ofNat (n+5)) v_Row v_Args v_Func v_Items v_Op v_Bound)))]=(zcc zb zg zc zf (At.mk (Int.ofNat (n+5)) v_Row v_Args v_Func v_Items v_Op v_Bound)).ev noH (λr=>some (zVf r)) none:=by kernel_rfl
theorem zHz (zb:yA->Bool×Bool) (zg:yC->Bool×Bool) (zc:yE->Bool×Bool) (zf:Wd->Bool×Bool) (n:Nat) (v_Row:RowID) (v_Args:yA) (v_Func:Int) (v_Items:yE) (v_Op:Int) (v_Bound:Value)  :zgd (zcS zb zg zc zf) f66 (body f66) ⟨[.pure],[]⟩ [.pure (.agg (base.enc 67 (At.mk (Int.negSucc n) v_Row v_Args v_Func v_Items v_Op v_Bound)))]=(zcc zb zg zc zf (At.mk (Int.negSucc n) v_Row v_Args v_Func v_Items v_Op v_Bound)).ev noH (λr=>some (zVf r)) none:=by kernel_rfl
theorem zH2 (zb:yA->Bool×Bool) (zg:yC->Bool×Bool) (zc:yE->Bool×Bool) (zf:Wd->Bool×Bool) (x_:At):zgd (zcS zb zg zc zf) f66 (body f66) ⟨[.pure],[]⟩ [.pure (.agg (base.enc 67 x_))]=(zcc zb zg zc zf x_).ev noH (λr=>some (zVf r)) none:=by
 obtain ⟨v_Kind,v_Row,v_Args,v_Func,v_Items,v_Op,v_Bound⟩:=x_
 match v_Kind with
 | .ofNat 0=>exact zHE zb zg zc zf v_Row v_Args v_Func v_Items v_Op v_Bound 
 | .ofNat 1=>exact zG1 zb zg zc zf v_Row v_Args v_Func v_Items v_Op v_Bound 
 | .ofNat 2=>exact zGA zb zg zc zf v_Row v_Args v_Func v_Items v_Op v_Bound 
 | .ofNat 3=>exact zHm zb zg zc zf v_Row v_Args v_Func v_Items v_Op v_Bound 
 | .ofNat 4=>exact zHC zb zg zc zf v_Row v_Args v_Func v_Items v_Op v_Bound 
 | .ofNat (n+5)=>exact zGK zb zg zc zf n v_Row v_Args v_Func v_Items v_Op v_Bound 
 | .negSucc n=>exact zHz zb zg zc zf n v_Row v_Args v_Func v_Items v_Op v_Bound 
theorem zFR (zb:yA->Bool×Bool) (zg:yC->Bool×Bool) (zc:yE->Bool×Bool) (zf:Wd->Bool×Bool) (zlN:SdP 126 (zcr zb)) (zfT:SdP 127 (zhO zg)) (zm9:SdP 132 (zcI zc)) (zf1:SdP 133 (zdq zf)):SdP 66 (zmh (zjw zb zg zc zf)):=
 zYL (cx':=(zcS zb zg zc zf)) zDg zgB zbat (zi ⟨ztp,zht,zlN,zfT,zzG,zvL,zAt,zu2,zm9,zf1,znB,zy7,trivial⟩) call66 func66 (c:=body f66) (by kernel_rfl) (zzZ (l:=[]) (by kernel_rfl) trivial) (sg:=⟨[.pure],[]⟩) (A:=zBm) (res:=zVf) (W:=λx=>zcc zb zg zc zf x.1) (z:=default) (λx=>zH2 zb zg zc zf x.1) (λ_=>by kernel_rfl)
def zF3 (zbN:yC->Bool×Bool):=zbq base 11 [(20,(zhO zbN))]
def zvQ (zbN:yC->Bool×Bool) (a:yC):Wy0 (Bool):=.bn (zbN a) λr0=>.i (!r0) (.k true) (.k (Int.ofNat a.length==0))
def zke (zbN:yC->Bool×Bool) (a:yC):=(zvQ zbN a).fin default
theorem zCJ (zbN:yC->Bool×Bool) (zwJ:SdP 20 (zhO zbN)):SdP 127 (zhO (zke zbN)):=
 sT (cx':=(zF3 zbN)) (zi ⟨zwJ,trivial⟩) call127 func127 (lOK aN)
def zFZ (zbN:yC->Bool×Bool):=zbq base 13 [(20,(zhO zbN))]
def zvK (zbN:yC->Bool×Bool) (w:Wd):Wy0 (Bool):=.bn (zbN w.Ann) λr0=>.i (!r0) (.k true) (.k (Int.ofNat w.Ann.length==0))
def zkf (zbN:yC->Bool×Bool) (w:Wd):=(zvK zbN w).fin default
theorem zCQ (zbN:yC->Bool×Bool) (zwJ:SdP 20 (zhO zbN)):SdP 133 (zdq (zkf zbN)):=
 sT (cx':=(zFZ zbN)) (zi ⟨zwJ,trivial⟩) call133 func133 (lOK aN)
def zlq (zg:yC->Bool×Bool) (z8:yA->Bool×Int):=zbq base 9 [(127,(zhO zg)),(161,(zcF z8))]
def zfm (zg:yC->Bool×Bool) (z8:yA->Bool×Int) (s:yA):Wy0 (Bool):=.bn (z8 s) λr0=>.k (decide (r0≥0))
def zcp (zg:yC->Bool×Bool) (z8:yA->Bool×Int) (s:yA):=(zfm zg z8 s).fin default
theorem zks (zg:yC->Bool×Bool) (z8:yA->Bool×Int) (zfT:SdP 127 (zhO zg)) (zmR:SdP 161 (zcF z8)):SdP 126 (zcr (zcp zg z8)):=
 sT (cx':=(zlq zg z8)) (zi ⟨zfT,zmR,trivial⟩) call126 func126 (lOK aN)
def zmP (zf:Wd->Bool×Bool) (zbd:yE->Bool×Int):=zbq base 9 [(133,(zdq zf)),(163,(zc4 zbd))]
def zgk (zf:Wd->Bool×Bool) (zbd:yE->Bool×Int) (s:yE):Wy0 (Bool):=.bn (zbd s) λr0=>.k (decide (r0≥0))
def zcL (zf:Wd->Bool×Bool) (zbd:yE->Bool×Int) (s:yE):=(zgk zf zbd s).fin default
theorem zlH (zf:Wd->Bool×Bool) (zbd:yE->Bool×Int) (zf1:SdP 133 (zdq zf)) (zoE:SdP 163 (zc4 zbd)):SdP 132 (zcI (zcL zf zbd)):=
 sT (cx':=(zmP zf zbd)) (zi ⟨zf1,zoE,trivial⟩) call132 func132 (lOK aN)
abbrev zc9:=yA×Unit×Int×Int×Unit
def zmm (zg:yC->Bool×Bool) (s:yA) (t7:Int) (t8:Int):Wy zc9 Unit (Int⊕Unit):=.i (decide (t8<t7)) (.i (decide (0<=t8)&&decide (t8<Int.ofNat s.length)) (.bn (zg (s.getD t8.toNat default)) λr0=>.i (r0) (.k (.inl t8)) (.h (s,(),t7,(IntKind.i64.wrap (t8+1)),()) ())) .d) (.k (.inr ()))
def zfN (zg:yC->Bool×Bool) (x:zc9) (y:Unit):=zmm zg x.1 x.2.2.1 x.2.2.2.1
def zml (zg:yC->Bool×Bool) (n:Nat) (s:yA) (t7:Int) (t8:Int):=zH (zfN zg) (.inl default) n (s,(),t7,t8,()) ()
def zmn:LL ty zc9:=za (lSl 23) (za (lFn 127 (zm)) (za zj (za zj zm)))
def zmb (x:zc9) (y:Unit):Nat:=(x.1.length+Int.toNat x.2.2.1+Int.toNat x.2.2.2.1+1)
def zfO (zg:yC->Bool×Bool):=zbZ base 19 [(127,(zhO zg))] [] [(2,(kpL [0,1,7,8]))] [(2,1,[]),(2,0,(kpL [4]))] [(2,spW zmn z8a (zfN zg) (.inl default) zrC zmb)] []
theorem zl2 (zg:yC->Bool×Bool):zD (zfO zg) (lp (body f161) 0):=zq (id:=2) (hl:=rfl)
def zm4 (zg:yC->Bool×Bool) (s:yA):Wy0 (Int):=.bn (zml zg (s.length+(Int.ofNat s.length).toNat +Int.toNat 0+1) s (Int.ofNat s.length) 0) λr2=>.i (isL r2) (.k (getL r2)) (.k (-1:Int))
def zcE (zg:yC->Bool×Bool) (s:yA):=(zm4 zg s).fin default
theorem zls (zg:yC->Bool×Bool) (zfT:SdP 127 (zhO zg)):SdP 161 (zcF (zcE zg)):=
 sT (cx':=(zfO zg)) (zi ⟨zfT,trivial⟩) call161 func161 (lOK (aC (zl2 zg) aN))
abbrev zdE:=yE×Unit×Int×Int×Unit
def znW (zf:Wd->Bool×Bool) (s:yE) (t7:Int) (t8:Int):Wy zdE Unit (Int⊕Unit):=.i (decide (t8<t7)) (.i (decide (0<=t8)&&decide (t8<Int.ofNat s.length)) (.bn (zf (s.getD t8.toNat default)) λr0=>.i (r0) (.k (.inl t8)) (.h (s,(),t7,(IntKind.i64.wrap (t8+1)),()) ())) .d) (.k (.inr ()))
def zgH (zf:Wd->Bool×Bool) (x:zdE) (y:Unit):=znW zf x.1 x.2.2.1 x.2.2.2.1
def zod (zf:Wd->Bool×Bool) (n:Nat) (s:yE) (t7:Int) (t8:Int):=zH (zgH zf) (.inl default) n (s,(),t7,t8,()) ()
def znT:LL ty zdE:=za (lSl 100) (za (lFn 133 (zm)) (za zj (za zj zm)))
def znJ (x:zdE) (y:Unit):Nat:=(x.1.length+Int.toNat x.2.2.1+Int.toNat x.2.2.2.1+1)
def zgF (zf:Wd->Bool×Bool):=zbZ base 19 [(133,(zdq zf))] [] [(2,(kpL [0,1,7,8]))] [(2,1,[]),(2,0,(kpL [4]))] [(2,spW znT z8a (zgH zf) (.inl default) zrC znJ)] []
theorem znE (zf:Wd->Bool×Bool):zD (zgF zf) (lp (body f163) 0):=zq (id:=2) (hl:=rfl)
def zoK (zf:Wd->Bool×Bool) (s:yE):Wy0 (Int):=.bn (zod zf (s.length+(Int.ofNat s.length).toNat +Int.toNat 0+1) s (Int.ofNat s.length) 0) λr2=>.i (isL r2) (.k (getL r2)) (.k (-1:Int))
def zc2 (zf:Wd->Bool×Bool) (s:yE):=(zoK zf s).fin default
theorem zmO (zf:Wd->Bool×Bool) (zf1:SdP 133 (zdq zf)):SdP 163 (zc4 (zc2 zf)):=
 sT (cx':=(zgF zf)) (zi ⟨zf1,trivial⟩) call163 func163 (lOK (aC (znE zf) aN))
def zef:Nat->(yC->Bool×Bool)×(At->Bool×Bool)×(yC->Bool×Bool)×(Wd->Bool×Bool)×(yA->Bool×Int)×(yA->Bool×Bool)×(yE->Bool×Int)×(yE->Bool×Bool)
 | 0=>(λ_=>(false,default),λ_=>(false,default),λ_=>(false,default),λ_=>(false,default),λ_=>(false,default),λ_=>(false,default),λ_=>(false,default),λ_=>(false,default))
 | n+1=>(zmQ ((zef n).2.1),zjw ((zef n).2.2.2.2.2.1) ((zef n).2.2.1) ((zef n).2.2.2.2.2.2.2) ((zef n).2.2.2.1),zke ((zef n).1),zkf ((zef n).1),zcE ((zef n).2.2.1),zcp ((zef n).2.2.1) ((zef n).2.2.2.2.1),zc2 ((zef n).2.2.2.1),zcL ((zef n).2.2.2.1) ((zef n).2.2.2.2.2.2.1))
def zj4 (n:Nat):yC->Bool×Bool:=(zef n).1
def zmv (n:Nat):At->Bool×Bool:=(zef n).2.1
def zfc (n:Nat):yC->Bool×Bool:=(zef n).2.2.1
def zfe (n:Nat):Wd->Bool×Bool:=(zef n).2.2.2.1
def zcD (n:Nat):yA->Bool×Int:=(zef n).2.2.2.2.1
def zcn (n:Nat):yA->Bool×Bool:=(zef n).2.2.2.2.2.1
def zc7 (n:Nat):yE->Bool×Int:=(zef n).2.2.2.2.2.2.1
def zcM (n:Nat):yE->Bool×Bool:=(zef n).2.2.2.2.2.2.2
theorem zQ4 (n:Nat):zj4 (n+1)=zmQ (zmv n):=rfl
theorem zKk (n:Nat):zmv (n+1)=zjw (zcn n) (zfc n) (zcM n) (zfe n):=rfl
theorem zFG (n:Nat):zfc (n+1)=zke (zj4 n):=rfl
theorem zFM (n:Nat):zfe (n+1)=zkf (zj4 n):=rfl
theorem zmf (n:Nat):zcD (n+1)=zcE (zfc n):=rfl
theorem zlp (n:Nat):zcn (n+1)=zcp (zfc n) (zcD n):=rfl
theorem zoe (n:Nat):zc7 (n+1)=zc2 (zfe n):=rfl
theorem zmy (n:Nat):zcM (n+1)=zcL (zfe n) (zc7 n):=rfl
theorem z05:∀ n,SdP 20 (zhO (zj4 n))/\SdP 66 (zmh (zmv n))/\SdP 127 (zhO (zfc n))/\SdP 133 (zdq (zfe n))/\SdP 161 (zcF (zcD n))/\SdP 126 (zcr (zcn n))/\SdP 163 (zc4 (zc7 n))/\SdP 132 (zcI (zcM n))
 | 0=>⟨zba call20 (λ_=>rfl),zba call66 (λ_=>rfl),zba call127 (λ_=>rfl),zba call133 (λ_=>rfl),zba call161 (λ_=>rfl),zba call126 (λ_=>rfl),zba call163 (λ_=>rfl),zba call132 (λ_=>rfl)⟩
 | n+1=>by
  have ih:=z05 n;exact ⟨zKR _ (ih.2.1),zFR _ _ _ _ (ih.2.2.2.2.2.1) (ih.2.2.1) (ih.2.2.2.2.2.2.2) (ih.2.2.2.1),zCJ _ (ih.1),zCQ _ (ih.1),zls _ (ih.2.2.1),zks _ _ (ih.2.2.1) (ih.2.2.2.2.1),zmO _ (ih.2.2.2.1),zlH _ _ (ih.2.2.2.1) (ih.2.2.2.2.2.2.1)⟩
def zb7:yC->Bool×Bool:=zj4 1000
def zcs:Ab.Spec ty:=zhO zb7
theorem zcC:SdP 20 zcs:=(z05 1000).1
def zdx (F:Term->Bool×Bool):Ab.Spec ty:=zh zPp λx=>((F x.1).1,zVf (F x.1).2)
def zcQ (F:Fc->Bool×Bool):Ab.Spec ty:=zh zKb λx=>((F x.1).1,zVf (F x.1).2)
def zsl:AL base (yC×Unit×Unit):=zd (ze (vSl 28)) (zd (ze (vFn 141 zbT)) zp)
def zdp (F:yC->Bool×Int):Ab.Spec ty:=zh zsl λx=>((F x.1).1,zOF (F x.1).2)
def zc6 (F:yC->Bool×Bool):Ab.Spec ty:=zh zsl λx=>((F x.1).1,zVf (F x.1).2)
def ztD:AL base (yD×Unit×Unit):=zd (ze (vSl 69)) (zd (ze (vFn 142 zbT)) zp)
def zdC (F:yD->Bool×Int):Ab.Spec ty:=zh ztD λx=>((F x.1).1,zOF (F x.1).2)
def zdb (F:yD->Bool×Bool):Ab.Spec ty:=zh ztD λx=>((F x.1).1,zVf (F x.1).2)
def zJG (zbc:yC->Bool×Bool) (zo:Term->Bool×Bool):=zbq base 6 [(59,(zc6 zbc)),(141,(zdx zo))]
def zzp (zbc:yC->Bool×Bool) (zo:Term->Bool×Bool) (a:yC):Wy0 (Bool):=.bn (zbc a) λr0=>.k (!r0)
def zmi (zbc:yC->Bool×Bool) (zo:Term->Bool×Bool) (a:yC):=(zzp zbc zo a).fin default
theorem zFF (zbc:yC->Bool×Bool) (zo:Term->Bool×Bool) (zoG:SdP 59 (zc6 zbc)) (zf3:SdP 141 (zdx zo)):SdP 73 (zhO (zmi zbc zo)):=
 sT (cx':=(zJG zbc zo)) (zi ⟨zoG,zf3,trivial⟩) call73 func73 (lOK aN)
def zF8 (zbh:yD->Bool×Bool) (zk:Fc->Bool×Bool):=zbq base 6 [(49,(zdb zbh)),(142,(zcQ zk))]
def zvJ (zbh:yD->Bool×Bool) (zk:Fc->Bool×Bool) (t:Term):Wy0 (Bool):=.bn (zbh t.Fs) λr0=>.k r0
def zkd (zbh:yD->Bool×Bool) (zk:Fc->Bool×Bool) (t:Term):=(zvJ zbh zk t).fin default
theorem zCO (zbh:yD->Bool×Bool) (zk:Fc->Bool×Bool) (zpq:SdP 49 (zdb zbh)) (zeP:SdP 142 (zcQ zk)):SdP 141 (zdx (zkd zbh zk)):=
 sT (cx':=(zF8 zbh zk)) (zi ⟨zpq,zeP,trivial⟩) call141 func141 (lOK aN)
def zCN (zdB:yC->Bool×Bool):=zbq base 22 [(73,(zhO zdB))]
def zs5 (zdB:yC->Bool×Bool) (f:Fc):Wy0 (Bool):=.i (f.At.Kind != 0) (.i (f.At.Kind != 2) (.k true) (.i (decide ((0:Int)<=(0:Int))&&decide (0<Int.ofNat f.At.Ag.length)) (.bn (zdB (f.At.Ag.getD (Int.toNat 0) default)) λr0=>.k (!r0)) .d)) (.k false)
def zir (zdB:yC->Bool×Bool) (f:Fc):=(zs5 zdB f).fin default
theorem zAO (zdB:yC->Bool×Bool) (zLq:SdP 73 (zhO zdB)):SdP 142 (zcQ (zir zdB)):=
 sT (cx':=(zCN zdB)) (zi ⟨zLq,trivial⟩) call142 func142 (lOK aN)
end Go.Proofs.YtljlfiomikifjaaGreatDoor
end
