/- Texts of this claim, joined (the program, its functions in plain words, and what they compute). -/
import Derived.Test.YtljlfiomikifjaaGreatDoorGC1
set_option autoImplicit false
set_option linter.unusedVariables false
set_option linter.unusedSectionVars false
set_option linter.unusedSimpArgs false
set_option maxRecDepth 1000000
set_option maxHeartbeats 0
noncomputable section
namespace Go.Proofs.YtljlfiomikifjaaGreatDoor
open Go Go.Ab
open Go.Proofs.Tryz
abbrev ztG:=Int×Unit×yC×Int×Int×yD×Int×Int×yA×Int×Int×Unit
abbrev zGY:=Int×yC×Int×Int×yD×Int×Int×Fc
abbrev ztM:=Int×yC×Int×Int×yD×Int×Int×yE×Int×Int×Unit
abbrev zHy:=Int×yC×Int×Int×yD×Int×Int
abbrev ztv:=Int×yC×Int×Int×yD×Int×Int×Unit
abbrev zHd:=Int×yC×Int×Int
abbrev zt6:=Int×yC×Int×Int×Unit
def zkA (zt:yC→Bool×Int) (n_:Int) (t12:yC) (t13:Int) (t14:Int) (t25:yD) (t26:Int) (t27:Int) (t33:yA) (t34:Int) (t35:Int) (f:Fc):Wy ztG (Fc×Unit) zGY:=.i (decide (t35<t34)) (.i (decide (0≤t35)&&decide (t35<Int.ofNat t33.length)) (.bn (zt (t33.getD t35.toNat default)) fun r0=>.h ((IntKind.i64.wrap (n_+r0)),(),t12,t13,t14,t25,t26,t27,t33,t34,(IntKind.i64.wrap (t35+1)),()) (f,())) .d) (.k (n_,t12,t13,t14,t25,t26,t27,f))
def zv1 (zt:yC→Bool×Int) (x:ztG) (y:Fc×Unit):=zkA zt x.1 x.2.2.1 x.2.2.2.1 x.2.2.2.2.1 x.2.2.2.2.2.1 x.2.2.2.2.2.2.1 x.2.2.2.2.2.2.2.1 x.2.2.2.2.2.2.2.2.1 x.2.2.2.2.2.2.2.2.2.1 x.2.2.2.2.2.2.2.2.2.2.1 y.1
def zDA (zt:yC→Bool×Int) (n:Nat) (n_:Int) (t12:yC) (t13:Int) (t14:Int) (t25:yD) (t26:Int) (t27:Int) (t33:yA) (t34:Int) (t35:Int) (f:Fc):=zH (zv1 zt) default n (n_,(),t12,t13,t14,t25,t26,t27,t33,t34,t35,()) (f,())
def zP3 (r:zGY):LTree ty:=.done (.exit 4) [.lit (.int .i64 r.1),.ptr 248 0,.sl 28 r.2.1,.lit (.int .i64 r.2.2.1),.lit (.int .i64 r.2.2.2.1),.sl 69 r.2.2.2.2.1,.lit (.int .i64 r.2.2.2.2.2.1),.lit (.int .i64 r.2.2.2.2.2.2.1)] [.box (base.enc 69 r.2.2.2.2.2.2.2) false]
def zR7:LL ty ztG:=za zj (za (zft 248 0) (za (lSl 28) (za zj (za zj (za (lSl 69) (za zj (za zj (za (lSl 23) (za zj (za zj zn))))))))))
def zSj:BL ty (Fc×Unit):=zjh (zhh (fun x=>(⟨⟨x.1,⟨x.2.1,x.2.2.1⟩,x.2.2.2.1,x.2.2.2.2.1,x.2.2.2.2.2.1,x.2.2.2.2.2.2.1,⟨x.2.2.2.2.2.2.2.1,x.2.2.2.2.2.2.2.2.1,x.2.2.2.2.2.2.2.2.2.1⟩⟩,x.2.2.2.2.2.2.2.2.2.2.1⟩:Fc)) (fun x=>(x.At.Kind,x.At.Row.Table,x.At.Row.Seq,x.At.Ag,x.At.Func,x.At.Items,x.At.Op,x.At.Bd.Kind,x.At.Bd.Int,x.At.Bd.Text,x.Exp,())) (fun _=>rfl) (za (zR .i64) (za (zR .i64) (za (zR .i64) (za (lSl 23) (za (zR .i64) (za (lSl 100) (za (zR .i64) (za (zR .i64) (za (zR .i64) (za zrl (za (zR .i64) zn)))))))))))) false (zbl)
def zkw (zt:yC→Bool×Int) (n_:Int) (t12:yC) (t13:Int) (t14:Int) (t25:yD) (t26:Int) (t27:Int) (t46:yE) (t47:Int) (t48:Int):Wy ztM (Unit) zHy:=.i (decide (t48<t47)) (.i (decide (0≤t48)&&decide (t48<Int.ofNat t46.length)) (.bn (zt (t46.getD t48.toNat default).Ann) fun r2=>.h ((IntKind.i64.wrap (n_+IntKind.i64.wrap (1+r2))),t12,t13,t14,t25,t26,t27,t46,t47,(IntKind.i64.wrap (t48+1)),()) ()) .d) (.k (n_,t12,t13,t14,t25,t26,t27))
def zvK (zt:yC→Bool×Int) (x:ztM) (y:Unit):=zkw zt x.1 x.2.1 x.2.2.1 x.2.2.2.1 x.2.2.2.2.1 x.2.2.2.2.2.1 x.2.2.2.2.2.2.1 x.2.2.2.2.2.2.2.1 x.2.2.2.2.2.2.2.2.1 x.2.2.2.2.2.2.2.2.2.1
def zDp (zt:yC→Bool×Int) (n:Nat) (n_:Int) (t12:yC) (t13:Int) (t14:Int) (t25:yD) (t26:Int) (t27:Int) (t46:yE) (t47:Int) (t48:Int):=zH (zvK zt) default n (n_,t12,t13,t14,t25,t26,t27,t46,t47,t48,()) ()
def zO3 (r:zHy):LTree ty:=.done (.exit 6) [.lit (.int .i64 r.1),.sl 28 r.2.1,.lit (.int .i64 r.2.2.1),.lit (.int .i64 r.2.2.2.1),.sl 69 r.2.2.2.2.1,.lit (.int .i64 r.2.2.2.2.2.1),.lit (.int .i64 r.2.2.2.2.2.2)] []
def zRN:LL ty ztM:=za zj (za (lSl 28) (za zj (za zj (za (lSl 69) (za zj (za zj (za (lSl 100) (za zj (za zj zn)))))))))
def zlq (zt:yC→Bool×Int) (n_:Int) (t12:yC) (t13:Int) (t14:Int) (t25:yD) (t26:Int) (t27:Int):Wy ztv (Unit) zHd:=.i (decide (t27<t26)) (.i (decide (0≤t27)&&decide (t27<Int.ofNat t25.length)) (.bn (zDA zt (n_.toNat +t12.length+t13.toNat +t14.toNat +t25.length+t26.toNat +t27.toNat +(t25.getD t27.toNat default).At.Ag.length+(Int.ofNat (t25.getD t27.toNat default).At.Ag.length).toNat +Int.toNat 0+(t25.getD t27.toNat default).At.Ag.length+(t25.getD t27.toNat default).At.Items.length+1) n_ t12 t13 t14 t25 t26 t27 (t25.getD t27.toNat default).At.Ag (Int.ofNat (t25.getD t27.toNat default).At.Ag.length) 0 (FO.mk (At.mk (t25.getD t27.toNat default).At.Kind (t25.getD t27.toNat default).At.Row (t25.getD t27.toNat default).At.Ag (t25.getD t27.toNat default).At.Func (t25.getD t27.toNat default).At.Items (t25.getD t27.toNat default).At.Op (t25.getD t27.toNat default).At.Bd) (t25.getD t27.toNat default).Exp)) fun r5=>.bn (zDp zt (r5.1.toNat +r5.2.1.length+r5.2.2.1.toNat +r5.2.2.2.1.toNat +r5.2.2.2.2.1.length+r5.2.2.2.2.2.1.toNat +r5.2.2.2.2.2.2.1.toNat +r5.2.2.2.2.2.2.2.At.Items.length+(Int.ofNat r5.2.2.2.2.2.2.2.At.Items.length).toNat +Int.toNat 0+1) r5.1 r5.2.1 r5.2.2.1 r5.2.2.2.1 r5.2.2.2.2.1 r5.2.2.2.2.2.1 r5.2.2.2.2.2.2.1 r5.2.2.2.2.2.2.2.At.Items (Int.ofNat r5.2.2.2.2.2.2.2.At.Items.length) 0) fun r4=>.h ((r4.1),(r4.2.1),(r4.2.2.1),(r4.2.2.2.1),(r4.2.2.2.2.1),(r4.2.2.2.2.2.1),(IntKind.i64.wrap (r4.2.2.2.2.2.2+1)),()) ()) .d) (.k (n_,t12,t13,t14))
def zxe (zt:yC→Bool×Int) (x:ztv) (y:Unit):=zlq zt x.1 x.2.1 x.2.2.1 x.2.2.2.1 x.2.2.2.2.1 x.2.2.2.2.2.1 x.2.2.2.2.2.2.1
def zEm (zt:yC→Bool×Int) (n:Nat) (n_:Int) (t12:yC) (t13:Int) (t14:Int) (t25:yD) (t26:Int) (t27:Int):=zH (zxe zt) default n (n_,t12,t13,t14,t25,t26,t27,()) ()
def zQI (r:zHd):LTree ty:=.done (.exit 2) [.lit (.int .i64 r.1),.sl 28 r.2.1,.lit (.int .i64 r.2.2.1),.lit (.int .i64 r.2.2.2)] []
def zSu:LL ty ztv:=za zj (za (lSl 28) (za zj (za zj (za (lSl 69) (za zj (za zj zn))))))
def zlk (zt:yC→Bool×Int) (n_:Int) (t12:yC) (t13:Int) (t14:Int):Wy zt6 (Unit) (Int):=.i (decide (t14<t13)) (.i (decide (0≤t14)&&decide (t14<Int.ofNat t12.length)) (.bn (zEm zt ((IntKind.i64.wrap (n_+IntKind.i64.wrap (1+Int.ofNat (t12.getD t14.toNat default).Fs.length))).toNat +t12.length+t13.toNat +t14.toNat +(t12.getD t14.toNat default).Fs.length+(Int.ofNat (t12.getD t14.toNat default).Fs.length).toNat +Int.toNat 0+1) (IntKind.i64.wrap (n_+IntKind.i64.wrap (1+Int.ofNat (t12.getD t14.toNat default).Fs.length))) t12 t13 t14 (t12.getD t14.toNat default).Fs (Int.ofNat (t12.getD t14.toNat default).Fs.length) 0) fun r8=>.h ((r8.1),(r8.2.1),(r8.2.2.1),(IntKind.i64.wrap (r8.2.2.2+1)),()) ()) .d) (.k n_)
def zxf (zt:yC→Bool×Int) (x:zt6) (y:Unit):=zlk zt x.1 x.2.1 x.2.2.1 x.2.2.2.1
def zEN (zt:yC→Bool×Int) (n:Nat) (n_:Int) (t12:yC) (t13:Int) (t14:Int):=zH (zxf zt) default n (n_,t12,t13,t14,()) ()
def zRh (r:Int):LTree ty:=.done (.exit 0) [.lit (.int .i64 r)] []
def zSo:LL ty zt6:=za zj (za (lSl 28) (za zj (za zj zn)))
def zQq (x:ztG) (y:Fc×Unit):Nat:=(Int.toNat x.1+x.2.2.1.length+Int.toNat x.2.2.2.1+Int.toNat x.2.2.2.2.1+x.2.2.2.2.2.1.length+Int.toNat x.2.2.2.2.2.2.1+Int.toNat x.2.2.2.2.2.2.2.1+x.2.2.2.2.2.2.2.2.1.length+Int.toNat x.2.2.2.2.2.2.2.2.2.1+Int.toNat x.2.2.2.2.2.2.2.2.2.2.1+y.1.At.Ag.length+y.1.At.Items.length+1)
def zP0 (x:ztM) (y:Unit):Nat:=(Int.toNat x.1+x.2.1.length+Int.toNat x.2.2.1+Int.toNat x.2.2.2.1+x.2.2.2.2.1.length+Int.toNat x.2.2.2.2.2.1+Int.toNat x.2.2.2.2.2.2.1+x.2.2.2.2.2.2.2.1.length+Int.toNat x.2.2.2.2.2.2.2.2.1+Int.toNat x.2.2.2.2.2.2.2.2.2.1+1)
def zSe (x:ztv) (y:Unit):Nat:=(Int.toNat x.1+x.2.1.length+Int.toNat x.2.2.1+Int.toNat x.2.2.2.1+x.2.2.2.2.1.length+Int.toNat x.2.2.2.2.2.1+Int.toNat x.2.2.2.2.2.2.1+1)
def zRz (x:zt6) (y:Unit):Nat:=(Int.toNat x.1+x.2.1.length+Int.toNat x.2.2.1+Int.toNat x.2.2.2.1+1)
def zly (zt:yC→Bool×Int):=zb5 base 62 [(115,(zoX zt))] [] [(3,(kpL [3,12,13,14])),(7,(kpL [3,12,13,14,25,26,27])),(10,(kpL [3,7,12,13,14,25,26,27,33,34,35])),(15,(kpL [3,12,13,14,25,26,27,46,47,48]))] [(3,1,(kpL [3])),(7,3,(kpL [3,12,13,14])),(10,5,(kpL [3,7,12,13,14,25,26,27])),(15,7,(kpL [3,12,13,14,25,26,27]))] [(10,spW zR7 zSj (zv1 zt) default zP3 zQq),(15,spW zRN z7V (zvK zt) default zO3 zP0),(7,spW zSu z7V (zxe zt) default zQI zSe),(3,spW zSo z7V (zxf zt) default zRh zRz)] []
theorem zPL (zt:yC→Bool×Int):zM (zly zt) (lp (body f115) 2):=zw (id:=10) (hl:=rfl)
theorem zPt (zt:yC→Bool×Int):zM (zly zt) (lp (body f115) 3):=zw (id:=15) (hl:=rfl)
theorem zQ7 (zt:yC→Bool×Int):zM (zly zt) (lp (body f115) 1):=zw (id:=7) (hl:=rfl)
theorem zRM (zt:yC→Bool×Int):zM (zly zt) (lp (body f115) 0):=zw (id:=3) (hl:=rfl)
def zFA (zt:yC→Bool×Int) (a:yC):Wy0 (Int):=.bn (zEN zt (Int.toNat 0+a.length+(Int.ofNat a.length).toNat +Int.toNat 0+1) 0 a (Int.ofNat a.length) 0) fun r10=>.k r10
def zuW (zt:yC→Bool×Int) (a:yC):=(zFA zt a).fin default
theorem zOa (zt:yC→Bool×Int) (zVg:SdP 115 (zoX zt)):SdP 115 (zoX (zuW zt)):=
 sT (cx':=(zly zt)) (zi ⟨zVg,trivial⟩) call115 func115 (lOK (aC (zRM zt) (aC (zQ7 zt) (aC (zPL zt) (aC (zPt zt) aN)))))
def z9J:Nat→(yC→Bool×Int)
 | 0=>fun _=>(false,default)
 | n+1=>zuW (z9J n)
def zlJ (n:Nat):yC→Bool×Int:=z9J n
theorem zSW (n:Nat):zlJ (n+1)=zuW (zlJ n):=rfl
theorem z4d:∀ n,SdP 115 (zoX (zlJ n))
 | 0=>z8 call115 (fun _=>rfl)
 | n+1=>by
  have ih:=z4d n;exact zOa _ (ih)
def zEx:yC→Bool×Int:=zlJ 1000
def zEq:Ab.Spec ty:=zoX zEx
theorem zRd:SdP 115 zEq:=(z4d 1000)
abbrev zn7:=Int×Unit×Int×yC×Int×Int×yD×Int×Int×yA×Int×Int×Unit
abbrev zDh:=Int×Int×yC×Int×Int×yD×Int×Int×Fc
abbrev zob:=Int×Int×yC×Int×Int×yD×Int×Int×yE×Int×Int×Unit
abbrev zDB:=Int×Int×yC×Int×Int×yD×Int×Int
abbrev zn9:=Int×yC×Int×Int×yD×Int×Int×Unit
abbrev zDs:=Int×yC×Int×Int
abbrev znS:=Int×yC×Int×Int×Unit
def zhX (zl:yC→Bool×Int) (n_:Int) (inner:Int) (t13:yC) (t14:Int) (t15:Int) (t20:yD) (t21:Int) (t22:Int) (t32:yA) (t33:Int) (t34:Int) (f:Fc):Wy zn7 (Fc×Unit) zDh:=.i (decide (t34<t33)) (.i (decide (0≤t34)&&decide (t34<Int.ofNat t32.length)) (.bn (zl (t32.getD t34.toNat default)) fun r0=>.h (n_,(),(if r0>inner then r0 else inner),t13,t14,t15,t20,t21,t22,t32,t33,(IntKind.i64.wrap (t34+1)),()) (f,())) .d) (.k (n_,inner,t13,t14,t15,t20,t21,t22,f))
def zrp (zl:yC→Bool×Int) (x:zn7) (y:Fc×Unit):=zhX zl x.1 x.2.2.1 x.2.2.2.1 x.2.2.2.2.1 x.2.2.2.2.2.1 x.2.2.2.2.2.2.1 x.2.2.2.2.2.2.2.1 x.2.2.2.2.2.2.2.2.1 x.2.2.2.2.2.2.2.2.2.1 x.2.2.2.2.2.2.2.2.2.2.1 x.2.2.2.2.2.2.2.2.2.2.2.1 y.1
def zAy (zl:yC→Bool×Int) (n:Nat) (n_:Int) (inner:Int) (t13:yC) (t14:Int) (t15:Int) (t20:yD) (t21:Int) (t22:Int) (t32:yA) (t33:Int) (t34:Int) (f:Fc):=zH (zrp zl) default n (n_,(),inner,t13,t14,t15,t20,t21,t22,t32,t33,t34,()) (f,())
def zKK (r:zDh):LTree ty:=.done (.exit 4) [.lit (.int .i64 r.1),.ptr 256 0,.lit (.int .i64 r.2.1),.sl 28 r.2.2.1,.lit (.int .i64 r.2.2.2.1),.lit (.int .i64 r.2.2.2.2.1),.sl 69 r.2.2.2.2.2.1,.lit (.int .i64 r.2.2.2.2.2.2.1),.lit (.int .i64 r.2.2.2.2.2.2.2.1)] [.box (base.enc 69 r.2.2.2.2.2.2.2.2) false]
def zLd:LL ty zn7:=za zj (za (zft 256 0) (za zj (za (lSl 28) (za zj (za zj (za (lSl 69) (za zj (za zj (za (lSl 23) (za zj (za zj zn)))))))))))
def zib (zl:yC→Bool×Int) (n_:Int) (inner:Int) (t13:yC) (t14:Int) (t15:Int) (t20:yD) (t21:Int) (t22:Int) (t45:yE) (t46:Int) (t47:Int):Wy zob (Unit) zDB:=.i (decide (t47<t46)) (.i (decide (0≤t47)&&decide (t47<Int.ofNat t45.length)) (.bn (zl (t45.getD t47.toNat default).Ann) fun r2=>.h (n_,(if r2>inner then r2 else inner),t13,t14,t15,t20,t21,t22,t45,t46,(IntKind.i64.wrap (t47+1)),()) ()) .d) (.k (n_,inner,t13,t14,t15,t20,t21,t22))
def zq5 (zl:yC→Bool×Int) (x:zob) (y:Unit):=zib zl x.1 x.2.1 x.2.2.1 x.2.2.2.1 x.2.2.2.2.1 x.2.2.2.2.2.1 x.2.2.2.2.2.2.1 x.2.2.2.2.2.2.2.1 x.2.2.2.2.2.2.2.2.1 x.2.2.2.2.2.2.2.2.2.1 x.2.2.2.2.2.2.2.2.2.2.1
def zzL (zl:yC→Bool×Int) (n:Nat) (n_:Int) (inner:Int) (t13:yC) (t14:Int) (t15:Int) (t20:yD) (t21:Int) (t22:Int) (t45:yE) (t46:Int) (t47:Int):=zH (zq5 zl) default n (n_,inner,t13,t14,t15,t20,t21,t22,t45,t46,t47,()) ()
def zKA (r:zDB):LTree ty:=.done (.exit 6) [.lit (.int .i64 r.1),.lit (.int .i64 r.2.1),.sl 28 r.2.2.1,.lit (.int .i64 r.2.2.2.1),.lit (.int .i64 r.2.2.2.2.1),.sl 69 r.2.2.2.2.2.1,.lit (.int .i64 r.2.2.2.2.2.2.1),.lit (.int .i64 r.2.2.2.2.2.2.2)] []
def zMh:LL ty zob:=za zj (za zj (za (lSl 28) (za zj (za zj (za (lSl 69) (za zj (za zj (za (lSl 100) (za zj (za zj zn))))))))))
def ziQ (zl:yC→Bool×Int) (n_:Int) (t13:yC) (t14:Int) (t15:Int) (t20:yD) (t21:Int) (t22:Int):Wy zn9 (Unit) zDs:=.i (decide (t22<t21)) (.i (decide (0≤t22)&&decide (t22<Int.ofNat t20.length)) (.i ((t20.getD t22.toNat default).At.Kind==0) (.h (n_,t13,t14,t15,t20,t21,(IntKind.i64.wrap (t22+1)),()) ()) (.bn (zAy zl (n_.toNat +Int.toNat 0+t13.length+t14.toNat +t15.toNat +t20.length+t21.toNat +t22.toNat +(t20.getD t22.toNat default).At.Ag.length+(Int.ofNat (t20.getD t22.toNat default).At.Ag.length).toNat +Int.toNat 0+(t20.getD t22.toNat default).At.Ag.length+(t20.getD t22.toNat default).At.Items.length+1) n_ 0 t13 t14 t15 t20 t21 t22 (t20.getD t22.toNat default).At.Ag (Int.ofNat (t20.getD t22.toNat default).At.Ag.length) 0 (FO.mk (At.mk (t20.getD t22.toNat default).At.Kind (t20.getD t22.toNat default).At.Row (t20.getD t22.toNat default).At.Ag (t20.getD t22.toNat default).At.Func (t20.getD t22.toNat default).At.Items (t20.getD t22.toNat default).At.Op (t20.getD t22.toNat default).At.Bd) (t20.getD t22.toNat default).Exp)) fun r5=>.bn (zzL zl (r5.1.toNat +r5.2.1.toNat +r5.2.2.1.length+r5.2.2.2.1.toNat +r5.2.2.2.2.1.toNat +r5.2.2.2.2.2.1.length+r5.2.2.2.2.2.2.1.toNat +r5.2.2.2.2.2.2.2.1.toNat +r5.2.2.2.2.2.2.2.2.At.Items.length+(Int.ofNat r5.2.2.2.2.2.2.2.2.At.Items.length).toNat +Int.toNat 0+1) r5.1 r5.2.1 r5.2.2.1 r5.2.2.2.1 r5.2.2.2.2.1 r5.2.2.2.2.2.1 r5.2.2.2.2.2.2.1 r5.2.2.2.2.2.2.2.1 r5.2.2.2.2.2.2.2.2.At.Items (Int.ofNat r5.2.2.2.2.2.2.2.2.At.Items.length) 0) fun r4=>.h ((if IntKind.i64.wrap (1+r4.2.1)>r4.1 then IntKind.i64.wrap (1+r4.2.1) else r4.1),(r4.2.2.1),(r4.2.2.2.1),(r4.2.2.2.2.1),(r4.2.2.2.2.2.1),(r4.2.2.2.2.2.2.1),(IntKind.i64.wrap (r4.2.2.2.2.2.2.2+1)),()) ())) .d) (.k (n_,t13,t14,t15))
def zsj (zl:yC→Bool×Int) (x:zn9) (y:Unit):=ziQ zl x.1 x.2.1 x.2.2.1 x.2.2.2.1 x.2.2.2.2.1 x.2.2.2.2.2.1 x.2.2.2.2.2.2.1
def zBq (zl:yC→Bool×Int) (n:Nat) (n_:Int) (t13:yC) (t14:Int) (t15:Int) (t20:yD) (t21:Int) (t22:Int):=zH (zsj zl) default n (n_,t13,t14,t15,t20,t21,t22,()) ()
def zK4 (r:zDs):LTree ty:=.done (.exit 2) [.lit (.int .i64 r.1),.sl 28 r.2.1,.lit (.int .i64 r.2.2.1),.lit (.int .i64 r.2.2.2)] []
def zN1:LL ty zn9:=za zj (za (lSl 28) (za zj (za zj (za (lSl 69) (za zj (za zj zn))))))
def zja (zl:yC→Bool×Int) (n_:Int) (t13:yC) (t14:Int) (t15:Int):Wy znS (Unit) (Int):=.i (decide (t15<t14)) (.i (decide (0≤t15)&&decide (t15<Int.ofNat t13.length)) (.bn (zBq zl (n_.toNat +t13.length+t14.toNat +t15.toNat +(t13.getD t15.toNat default).Fs.length+(Int.ofNat (t13.getD t15.toNat default).Fs.length).toNat +Int.toNat 0+1) n_ t13 t14 t15 (t13.getD t15.toNat default).Fs (Int.ofNat (t13.getD t15.toNat default).Fs.length) 0) fun r8=>.h ((r8.1),(r8.2.1),(r8.2.2.1),(IntKind.i64.wrap (r8.2.2.2+1)),()) ()) .d) (.k n_)
def zs2 (zl:yC→Bool×Int) (x:znS) (y:Unit):=zja zl x.1 x.2.1 x.2.2.1 x.2.2.2.1
def zBj (zl:yC→Bool×Int) (n:Nat) (n_:Int) (t13:yC) (t14:Int) (t15:Int):=zH (zs2 zl) default n (n_,t13,t14,t15,()) ()
def zOb:LL ty znS:=za zj (za (lSl 28) (za zj (za zj zn)))
def zKn (x:zn7) (y:Fc×Unit):Nat:=(Int.toNat x.1+Int.toNat x.2.2.1+x.2.2.2.1.length+Int.toNat x.2.2.2.2.1+Int.toNat x.2.2.2.2.2.1+x.2.2.2.2.2.2.1.length+Int.toNat x.2.2.2.2.2.2.2.1+Int.toNat x.2.2.2.2.2.2.2.2.1+x.2.2.2.2.2.2.2.2.2.1.length+Int.toNat x.2.2.2.2.2.2.2.2.2.2.1+Int.toNat x.2.2.2.2.2.2.2.2.2.2.2.1+y.1.At.Ag.length+y.1.At.Items.length+1)
def zJ1 (x:zob) (y:Unit):Nat:=(Int.toNat x.1+Int.toNat x.2.1+x.2.2.1.length+Int.toNat x.2.2.2.1+Int.toNat x.2.2.2.2.1+x.2.2.2.2.2.1.length+Int.toNat x.2.2.2.2.2.2.1+Int.toNat x.2.2.2.2.2.2.2.1+x.2.2.2.2.2.2.2.2.1.length+Int.toNat x.2.2.2.2.2.2.2.2.2.1+Int.toNat x.2.2.2.2.2.2.2.2.2.2.1+1)
def zMo (x:zn9) (y:Unit):Nat:=(Int.toNat x.1+x.2.1.length+Int.toNat x.2.2.1+Int.toNat x.2.2.2.1+x.2.2.2.2.1.length+Int.toNat x.2.2.2.2.2.1+Int.toNat x.2.2.2.2.2.2.1+1)
def zNb (x:znS) (y:Unit):Nat:=(Int.toNat x.1+x.2.1.length+Int.toNat x.2.2.1+Int.toNat x.2.2.2.1+1)
def ziP (zl:yC→Bool×Int):=zb5 base 64 [(114,(zoX zl))] [] [(3,(kpL [3,13,14,15])),(6,(kpL [3,13,14,15,20,21,22])),(11,(kpL [3,7,8,13,14,15,20,21,22,32,33,34])),(16,(kpL [3,8,13,14,15,20,21,22,45,46,47]))] [(3,1,(kpL [3])),(6,3,(kpL [3,13,14,15])),(11,5,(kpL [3,7,8,13,14,15,20,21,22])),(16,7,(kpL [3,8,13,14,15,20,21,22]))] [(11,spW zLd zSj (zrp zl) default zKK zKn),(16,spW zMh z7V (zq5 zl) default zKA zJ1),(6,spW zN1 z7V (zsj zl) default zK4 zMo),(3,spW zOb z7V (zs2 zl) default zRh zNb)] []
theorem zKj (zl:yC→Bool×Int):zM (ziP zl) (lp (body f114) 2):=zw (id:=11) (hl:=rfl)
theorem zKq (zl:yC→Bool×Int):zM (ziP zl) (lp (body f114) 3):=zw (id:=16) (hl:=rfl)
theorem zMH (zl:yC→Bool×Int):zM (ziP zl) (lp (body f114) 1):=zw (id:=6) (hl:=rfl)
theorem zK9 (zl:yC→Bool×Int):zM (ziP zl) (lp (body f114) 0):=zw (id:=3) (hl:=rfl)
def zCr (zl:yC→Bool×Int) (a:yC):Wy0 (Int):=.bn (zBj zl (Int.toNat 0+a.length+(Int.ofNat a.length).toNat +Int.toNat 0+1) 0 a (Int.ofNat a.length) 0) fun r10=>.k r10
def zpI (zl:yC→Bool×Int) (a:yC):=(zCr zl a).fin default
theorem zIU (zl:yC→Bool×Int) (zPq:SdP 114 (zoX zl)):SdP 114 (zoX (zpI zl)):=
 sT (cx':=(ziP zl)) (zi ⟨zPq,trivial⟩) call114 func114 (lOK (aC (zK9 zl) (aC (zMH zl) (aC (zKj zl) (aC (zKq zl) aN)))))
def z0P:Nat→(yC→Bool×Int)
 | 0=>fun _=>(false,default)
 | n+1=>zpI (z0P n)
def zge (n:Nat):yC→Bool×Int:=z0P n
theorem zNR (n:Nat):zge (n+1)=zpI (zge n):=rfl
theorem zU7:∀ n,SdP 114 (zoX (zge n))
 | 0=>z8 call114 (fun _=>rfl)
 | n+1=>by
  have ih:=zU7 n;exact zIU _ (ih)
def zAm:yC→Bool×Int:=zge 1000
def zBe:Ab.Spec ty:=zoX zAm
theorem zLK:SdP 114 zBe:=(zU7 1000)
def zIS:=zbq base 13 []
def zy5 (f:Fc):Wy0 (Bool):=.i (decide (f.Exp>64)) (.k true) (.k (decide (Int.ofNat f.At.Items.length>1024)))
def zf8 (f:Fc):=(zy5 f).fin default
def zJ3:AL base (Fc×Unit):=zd (ze (zcG 69)) zr
def ziL:=zh zJ3 fun x=>((zf8 x.1).1,zVj (zf8 x.1).2)
theorem zlU:SdP 117 ziL:=
 sT (cx':=zIS) (zi trivial) call117 func117 (lOK aN)
abbrev zen:=yD×Unit×Int×Int×Unit
def zjA (s:yD) (t7:Int) (t8:Int):Wy zen (Unit) (Int⊕Unit):=.i (decide (t8<t7)) (.i (decide (0≤t8)&&decide (t8<Int.ofNat s.length)) (.bn (zf8 (FO.mk (At.mk (s.getD t8.toNat default).At.Kind (s.getD t8.toNat default).At.Row (s.getD t8.toNat default).At.Ag (s.getD t8.toNat default).At.Func (s.getD t8.toNat default).At.Items (s.getD t8.toNat default).At.Op (s.getD t8.toNat default).At.Bd) (s.getD t8.toNat default).Exp)) fun r0=>.i (r0) (.k (.inl t8)) (.h (s,(),t7,(IntKind.i64.wrap (t8+1)),()) ())) .d) (.k (.inr ()))
def zdw (x:zen) (y:Unit):=zjA x.1 x.2.2.1 x.2.2.2.1
def zjn (n:Nat) (s:yD) (t7:Int) (t8:Int):=zH (zdw) (.inl default) n (s,(),t7,t8,()) ()
def zsk (r:Int⊕Unit):LTree ty:=.ite (isL r) (.done .ret [.lit (.int .i64 (getL r))] []) (.done (.exit 0) [] [])
def zt7:LL ty zen:=za (lSl 69) (za (lFn 117 (zn)) (za zj (za zj zn)))
def zss (x:zen) (y:Unit):Nat:=(x.1.length+Int.toNat x.2.2.1+Int.toNat x.2.2.2.1+1)
def zjp:=zb5 base 19 [(117,ziL)] [] [(2,(kpL [0,1,7,8]))] [(2,1,[]),(2,0,(kpL [4]))] [(2,spW zt7 z7V (zdw) (.inl default) zsk zss)] []
theorem zsq:zM zjp (lp (body f103) 0):=zw (id:=2) (hl:=rfl)
def zjR (s:yD):Wy0 (Int):=.bn (zjn (s.length+(Int.ofNat s.length).toNat +Int.toNat 0+1) s (Int.ofNat s.length) 0) fun r2=>.i (isL r2) (.k (getL r2)) (.k (-1:Int))
def zcS (s:yD):=(zjR s).fin default
def zt8:AL base (yD×Unit×Unit):=zd (ze (vSl 69)) (zd (ze (vFn 117 zbW)) zr)
def ziq:=zh zt8 fun x=>((zcS x.1).1,zPQ (zcS x.1).2)
theorem zqN:SdP 103 ziq:=
 sT (cx':=zjp) (zi ⟨zlU,trivial⟩) call103 func103 (lOK (aC zsq aN))
def zqB:=zbq base 9 [(103,ziq),(117,ziL)]
def zir (s:yD):Wy0 (Bool):=.bn (zcS s) fun r0=>.k (decide (r0≥0))
def zcx (s:yD):=(zir s).fin default
def zhe:=zh zt8 fun x=>((zcx x.1).1,zVj (zcx x.1).2)
theorem zoJ:SdP 49 zhe:=
 sT (cx':=zqB) (zi ⟨zqN,zlU,trivial⟩) call49 func49 (lOK aN)
def zN7:=zbq base 12 [(49,zhe),(117,ziL)]
def zCu (t:Term):Wy0 (Bool):=.i (decide (Int.ofNat t.Fs.length>64)) (.k true) (.bn (zcx t.Fs) fun r0=>.k r0)
def zll (t:Term):=(zCu t).fin default
def zPY:AL base (Term×Unit):=zd (ze (zcG 28)) zr
def zkJ:=zh zPY fun x=>((zll x.1).1,zVj (zll x.1).2)
theorem zov:SdP 116 zkJ:=
 sT (cx':=zN7) (zi ⟨zoJ,zlU,trivial⟩) call116 func116 (lOK aN)
abbrev zeb:=yC×Unit×Int×Int×Unit
def zsF (s:yC) (t7:Int) (t8:Int):Wy zeb (Unit) (Int⊕Unit):=.i (decide (t8<t7)) (.i (decide (0≤t8)&&decide (t8<Int.ofNat s.length)) (.bn (zll (s.getD t8.toNat default)) fun r0=>.i (r0) (.k (.inl t8)) (.h (s,(),t7,(IntKind.i64.wrap (t8+1)),()) ())) .d) (.k (.inr ()))
def ziR (x:zeb) (y:Unit):=zsF x.1 x.2.2.1 x.2.2.2.1
def zsS (n:Nat) (s:yC) (t7:Int) (t8:Int):=zH (ziR) (.inl default) n (s,(),t7,t8,()) ()
def zsQ:LL ty zeb:=za (lSl 28) (za (lFn 116 (zn)) (za zj (za zj zn)))
def zsh (x:zeb) (y:Unit):Nat:=(x.1.length+Int.toNat x.2.2.1+Int.toNat x.2.2.2.1+1)
def zi6:=zb5 base 19 [(116,zkJ)] [] [(2,(kpL [0,1,7,8]))] [(2,1,[]),(2,0,(kpL [4]))] [(2,spW zsQ z7V (ziR) (.inl default) zsk zsh)] []
theorem zsf:zM zi6 (lp (body f113) 0):=zw (id:=2) (hl:=rfl)
def ztw (s:yC):Wy0 (Int):=.bn (zsS (s.length+(Int.ofNat s.length).toNat +Int.toNat 0+1) s (Int.ofNat s.length) 0) fun r2=>.i (isL r2) (.k (getL r2)) (.k (-1:Int))
def zdS (s:yC):=(ztw s).fin default
def zt2:AL base (yC×Unit×Unit):=zd (ze (vSl 28)) (zd (ze (vFn 116 zbW)) zr)
def zh6:=zh zt2 fun x=>((zdS x.1).1,zPQ (zdS x.1).2)
theorem zqv:SdP 113 zh6:=
 sT (cx':=zi6) (zi ⟨zov,trivial⟩) call113 func113 (lOK (aC zsf aN))
def zqd:=zbq base 9 [(113,zh6),(116,zkJ)]
def zhV (s:yC):Wy0 (Bool):=.bn (zdS s) fun r0=>.k (decide (r0≥0))
def zcp (s:yC):=(zhV s).fin default
def zgN:=zh zt2 fun x=>((zcp x.1).1,zVj (zcp x.1).2)
theorem zof:SdP 59 zgN:=
 sT (cx':=zqd) (zi ⟨zqv,zov,trivial⟩) call59 func59 (lOK aN)
def zTs:=zbq base 19 [(59,zgN),(114,zBe),(115,zEq),(116,zkJ)]
def zFy (a:yC):Wy0 (Bool):=.i (decide (Int.ofNat a.length>512)) (.k false) (.bn (zAm a) fun r2=>.i (decide (r2>8)) (.k false) (.bn (zEx a) fun r1=>.i (decide (r1>4096)) (.k false) (.bn (zcp a) fun r0=>.k (!r0))))
def zlE (a:yC):=(zFy a).fin default
def zuj:=zh zXg fun x=>((zlE x.1).1,zVj (zlE x.1).2)
theorem zBu:SdP 62 zuj:=
 sT (cx':=zTs) (zi ⟨zof,zLK,zRd,zov,trivial⟩) call62 func62 (lOK aN)
abbrev zrE:=yC×Unit×yC×Int×Int×yD×Int×Int×Unit
abbrev zFD:=Bool⊕(yC×yC×Int×Int)
abbrev zrF:=yC×yC×Int×Int×Unit
def zkl (zC:At→Bool×Bool) (a:yC) (t10:yC) (t11:Int) (t12:Int) (t40:yD) (t41:Int) (t42:Int) (t:Term):Wy zrE (Term×Unit) zFD:=.i (decide (t42<t41)) (.i (decide (0≤t42)&&decide (t42<Int.ofNat t40.length)) (.i (decide ((t40.getD t42.toNat default).Exp<1)) (.k (.inl false)) (.bn (zfJ (At.mk (t40.getD t42.toNat default).At.Kind (t40.getD t42.toNat default).At.Row (t40.getD t42.toNat default).At.Ag (t40.getD t42.toNat default).At.Func (t40.getD t42.toNat default).At.Items (t40.getD t42.toNat default).At.Op (t40.getD t42.toNat default).At.Bd)) fun r6=>.i (r6) (.i ((t40.getD t42.toNat default).Exp != 1) (.k (.inl false)) (.i (decide (t42>0)) (.i (decide (0≤IntKind.i64.wrap (t42 - 1))&&decide (IntKind.i64.wrap (t42 - 1)<Int.ofNat t.Fs.length)) (.bn (zi2 (At.mk (t.Fs.getD (IntKind.i64.wrap (t42 - 1)).toNat default).At.Kind (t.Fs.getD (IntKind.i64.wrap (t42 - 1)).toNat default).At.Row (t.Fs.getD (IntKind.i64.wrap (t42 - 1)).toNat default).At.Ag (t.Fs.getD (IntKind.i64.wrap (t42 - 1)).toNat default).At.Func (t.Fs.getD (IntKind.i64.wrap (t42 - 1)).toNat default).At.Items (t.Fs.getD (IntKind.i64.wrap (t42 - 1)).toNat default).At.Op (t.Fs.getD (IntKind.i64.wrap (t42 - 1)).toNat default).At.Bd) (At.mk (t40.getD t42.toNat default).At.Kind (t40.getD t42.toNat default).At.Row (t40.getD t42.toNat default).At.Ag (t40.getD t42.toNat default).At.Func (t40.getD t42.toNat default).At.Items (t40.getD t42.toNat default).At.Op (t40.getD t42.toNat default).At.Bd)) fun r1=>.i (decide (r1≥0)) (.k (.inl false)) (.bn (zC (At.mk (t40.getD t42.toNat default).At.Kind (t40.getD t42.toNat default).At.Row (t40.getD t42.toNat default).At.Ag (t40.getD t42.toNat default).At.Func (t40.getD t42.toNat default).At.Items (t40.getD t42.toNat default).At.Op (t40.getD t42.toNat default).At.Bd)) fun r0=>.i (!r0) (.k (.inl false)) (.h (a,(),t10,t11,t12,t40,t41,(IntKind.i64.wrap (t42+1)),()) (t,())))) .d) (.bn (zC (At.mk (t40.getD t42.toNat default).At.Kind (t40.getD t42.toNat default).At.Row (t40.getD t42.toNat default).At.Ag (t40.getD t42.toNat default).At.Func (t40.getD t42.toNat default).At.Items (t40.getD t42.toNat default).At.Op (t40.getD t42.toNat default).At.Bd)) fun r2=>.i (!r2) (.k (.inl false)) (.h (a,(),t10,t11,t12,t40,t41,(IntKind.i64.wrap (t42+1)),()) (t,()))))) (.i (decide (t42>0)) (.i (decide (0≤IntKind.i64.wrap (t42 - 1))&&decide (IntKind.i64.wrap (t42 - 1)<Int.ofNat t.Fs.length)) (.bn (zi2 (At.mk (t.Fs.getD (IntKind.i64.wrap (t42 - 1)).toNat default).At.Kind (t.Fs.getD (IntKind.i64.wrap (t42 - 1)).toNat default).At.Row (t.Fs.getD (IntKind.i64.wrap (t42 - 1)).toNat default).At.Ag (t.Fs.getD (IntKind.i64.wrap (t42 - 1)).toNat default).At.Func (t.Fs.getD (IntKind.i64.wrap (t42 - 1)).toNat default).At.Items (t.Fs.getD (IntKind.i64.wrap (t42 - 1)).toNat default).At.Op (t.Fs.getD (IntKind.i64.wrap (t42 - 1)).toNat default).At.Bd) (At.mk (t40.getD t42.toNat default).At.Kind (t40.getD t42.toNat default).At.Row (t40.getD t42.toNat default).At.Ag (t40.getD t42.toNat default).At.Func (t40.getD t42.toNat default).At.Items (t40.getD t42.toNat default).At.Op (t40.getD t42.toNat default).At.Bd)) fun r4=>.i (decide (r4≥0)) (.k (.inl false)) (.bn (zC (At.mk (t40.getD t42.toNat default).At.Kind (t40.getD t42.toNat default).At.Row (t40.getD t42.toNat default).At.Ag (t40.getD t42.toNat default).At.Func (t40.getD t42.toNat default).At.Items (t40.getD t42.toNat default).At.Op (t40.getD t42.toNat default).At.Bd)) fun r3=>.i (!r3) (.k (.inl false)) (.h (a,(),t10,t11,t12,t40,t41,(IntKind.i64.wrap (t42+1)),()) (t,())))) .d) (.bn (zC (At.mk (t40.getD t42.toNat default).At.Kind (t40.getD t42.toNat default).At.Row (t40.getD t42.toNat default).At.Ag (t40.getD t42.toNat default).At.Func (t40.getD t42.toNat default).At.Items (t40.getD t42.toNat default).At.Op (t40.getD t42.toNat default).At.Bd)) fun r5=>.i (!r5) (.k (.inl false)) (.h (a,(),t10,t11,t12,t40,t41,(IntKind.i64.wrap (t42+1)),()) (t,())))))) .d) (.k (.inr (a,t10,t11,t12)))
def zvl (zC:At→Bool×Bool) (x:zrE) (y:Term×Unit):=zkl zC x.1 x.2.2.1 x.2.2.2.1 x.2.2.2.2.1 x.2.2.2.2.2.1 x.2.2.2.2.2.2.1 x.2.2.2.2.2.2.2.1 y.1
def zvu (zC:At→Bool×Bool) (n:Nat) (a:yC) (t10:yC) (t11:Int) (t12:Int) (t40:yD) (t41:Int) (t42:Int) (t:Term):=zH (zvl zC) (.inl default) n (a,(),t10,t11,t12,t40,t41,t42,()) (t,())
def zQi (r:zFD):LTree ty:=.ite (isL r) (.done .ret [.lit (.bool (getL r))] []) (.done (.exit 2) [.sl 28 (getR r).1,.sl 28 (getR r).2.1,.lit (.int .i64 (getR r).2.2.1),.lit (.int .i64 (getR r).2.2.2)] [])
def zQB:LL ty zrE:=za (lSl 28) (za (zft 340 0) (za (lSl 28) (za zj (za zj (za (lSl 69) (za zj (za zj zn)))))))
def zRX:BL ty (Term×Unit):=zjh (zhh (fun x=>(⟨x.1,x.2.1⟩:Term)) (fun x=>(x.Cf,x.Fs,())) (fun _=>rfl) (za (zR .i64) (za (lSl 69) zn))) false (zbl)
def zkn (zC:At→Bool×Bool) (a:yC) (t10:yC) (t11:Int) (t12:Int):Wy zrF (Unit) (Bool⊕Unit):=.i (decide (t12<t11)) (.i (decide (0≤t12)&&decide (t12<Int.ofNat t10.length)) (.i (decide ((t10.getD t12.toNat default).Cf<1)) (.k (.inl false)) (.i (decide ((t10.getD t12.toNat default).Cf>1152921504606846976)) (.k (.inl false)) (.i (decide (t12>0)) (.i (decide (0≤IntKind.i64.wrap (t12 - 1))&&decide (IntKind.i64.wrap (t12 - 1)<Int.ofNat a.length)) (.bn (zb3 (a.getD (IntKind.i64.wrap (t12 - 1)).toNat default) (t10.getD t12.toNat default)) fun r15=>.i (decide (r15≥0)) (.k (.inl false)) (.bn (zvu zC (a.length+t10.length+t11.toNat +t12.toNat +(t10.getD t12.toNat default).Fs.length+(Int.ofNat (t10.getD t12.toNat default).Fs.length).toNat +Int.toNat 0+(t10.getD t12.toNat default).Fs.length+1) a t10 t11 t12 (t10.getD t12.toNat default).Fs (Int.ofNat (t10.getD t12.toNat default).Fs.length) 0 (t10.getD t12.toNat default)) fun r14=>.i (isL r14) (.k (.inl (getL r14))) (.h ((getR r14).1,(getR r14).2.1,(getR r14).2.2.1,(IntKind.i64.wrap ((getR r14).2.2.2+1)),()) ()))) .d) (.bn (zvu zC (a.length+t10.length+t11.toNat +t12.toNat +(t10.getD t12.toNat default).Fs.length+(Int.ofNat (t10.getD t12.toNat default).Fs.length).toNat +Int.toNat 0+(t10.getD t12.toNat default).Fs.length+1) a t10 t11 t12 (t10.getD t12.toNat default).Fs (Int.ofNat (t10.getD t12.toNat default).Fs.length) 0 (t10.getD t12.toNat default)) fun r16=>.i (isL r16) (.k (.inl (getL r16))) (.h ((getR r16).1,(getR r16).2.1,(getR r16).2.2.1,(IntKind.i64.wrap ((getR r16).2.2.2+1)),()) ()))))) .d) (.k (.inr ()))
def zvN (zC:At→Bool×Bool) (x:zrF) (y:Unit):=zkn zC x.1 x.2.1 x.2.2.1 x.2.2.2.1
def zC6 (zC:At→Bool×Bool) (n:Nat) (a:yC) (t10:yC) (t11:Int) (t12:Int):=zH (zvN zC) (.inl default) n (a,t10,t11,t12,()) ()
def zQe (r:Bool⊕Unit):LTree ty:=.ite (isL r) (.done .ret [.lit (.bool (getL r))] []) (.done (.exit 0) [] [])
def zQM:LL ty zrF:=za (lSl 28) (za (lSl 28) (za zj (za zj zn)))
def zQk (x:zrE) (y:Term×Unit):Nat:=(x.1.length+x.2.2.1.length+Int.toNat x.2.2.2.1+Int.toNat x.2.2.2.2.1+x.2.2.2.2.2.1.length+Int.toNat x.2.2.2.2.2.2.1+Int.toNat x.2.2.2.2.2.2.2.1+y.1.Fs.length+1)
def zPS (x:zrF) (y:Unit):Nat:=(x.1.length+x.2.1.length+Int.toNat x.2.2.1+Int.toNat x.2.2.2.1+1)
def zvR (zC:At→Bool×Bool):=zb5 base 85 [(62,zuj),(63,ziN),(64,zj5),(65,zmJ),(66,(zmS zC))] [] [(4,(kpL [0,10,11,12])),(9,(kpL [0,4,10,11,12,40,41,42]))] [(4,1,[]),(4,0,(kpL [2])),(9,3,(kpL [0,10,11,12])),(9,0,(kpL [2]))] [(9,spW zQB zRX (zvl zC) (.inl default) zQi zQk),(4,spW zQM z7V (zvN zC) (.inl default) zQe zPS)] []
theorem zPm (zC:At→Bool×Bool):zM (zvR zC) (lp (body f20) 1):=zw (id:=9) (hl:=rfl)
theorem zP1 (zC:At→Bool×Bool):zM (zvR zC) (lp (body f20) 0):=zw (id:=4) (hl:=rfl)
def zD3 (zC:At→Bool×Bool) (a:yC):Wy0 (Bool):=.bn (zlE a) fun r21=>.i (!r21) (.k false) (.bn (zC6 zC (a.length+a.length+(Int.ofNat a.length).toNat +Int.toNat 0+1) a a (Int.ofNat a.length) 0) fun r20=>.i (isL r20) (.k (getL r20)) (.k true))
def zm9 (zC:At→Bool×Bool) (a:yC):=(zD3 zC a).fin default
theorem zLT (zC:At→Bool×Bool) (zMz:SdP 66 (zmS zC)):SdP 20 (zhF (zm9 zC)):=
 sT (cx':=(zvR zC)) (zi ⟨zBu,zlX,znt,zuM,zMz,trivial⟩) call20 func20 (lOK (aC (zP1 zC) (aC (zPm zC) aN)))
def zVV:=zbq base 9 [(67,zBs)]
def zHE (a:yC) (b:yC):Wy0 (Bool):=.bn (zz9 a b) fun r0=>.k (r0==0)
def zcv (a:yC) (b:yC):=(zHE a b).fin default
def zkv:=zh zTM fun x=>((zcv x.1 x.2.1).1,zVj (zcv x.1 x.2.1).2)
theorem zm7:SdP 21 zkv:=
 sT (cx':=zVV) (zi ⟨zLF,trivial⟩) call21 func21 (lOK aN)
def z5o:=zbq base 36 []
def zUx (v:Value):Wy0 (Bool):=.i (v.Kind==0) (.k (v.Text.toList==(ByteArray.mk #[]).toList)) (.i (v.Kind==1) (.i (v.Int==0) (.k (decide (Int.ofNat v.Text.size≤255))) (.k false)) (.i (v.Kind==2) (.i (v.Int==0) (.k (v.Text.toList==(ByteArray.mk #[]).toList)) (.i (v.Int==1) (.k (v.Text.toList==(ByteArray.mk #[]).toList)) (.k false))) (.k false)))
def zuF (v:Value):=(zUx v).fin default
def z7Y:AL base (Value×Unit):=zd (ze (zcG 65)) zr
def zwM:=zh z7Y fun x=>((zuF x.1).1,zVj (zuF x.1).2)
theorem zBW:SdP 164 zwM:=
 sT (cx':=z5o) (zi trivial) call164 func164 (lOK aN)
def zMN:=zbq base 27 [(164,zwM)]
def zBr (w:Wd) (p1:Value) (p2:Int):Wy0 (Bool):=.bn (zuF w.Value) fun r0=>.i (!r0) (.k true) (.i (w.Value.Kind != p1.Kind) (.k true) (.i (p2==0) (.k (w.Value.Int != 1)) (.k false)))
def zhw (w:Wd) (p1:Value) (p2:Int):=(zBr w p1 p2).fin default
def zNO:AL base (Wd×Value×(Int×Unit)×Unit):=zd (ze (zcG 100)) (zd (ze (zzh 65)) (zd (ze (zue (zdA zhl zbW))) zr))
def zj0:=zh zNO fun x=>((zhw x.1 x.2.1 x.2.2.1.1).1,zVj (zhw x.1 x.2.1 x.2.2.1.1).2)
theorem znl:SdP 165 zj0:=
 sT (cx':=zMN) (zi ⟨zBW,trivial⟩) call165 func165 (lOK aN)
abbrev zdM:=yE×(Value×(Int×Unit)×Unit)×Int×Int×Unit
def zqh (s:yE) (f_0:Value) (f_1:Int) (t7:Int) (t8:Int):Wy zdM (Unit) (Int⊕Unit):=.i (decide (t8<t7)) (.i (decide (0≤t8)&&decide (t8<Int.ofNat s.length)) (.bn (zhw (s.getD t8.toNat default) f_0 f_1) fun r0=>.i (r0) (.k (.inl t8)) (.h (s,(f_0,(f_1,()),()),t7,(IntKind.i64.wrap (t8+1)),()) ())) .d) (.k (.inr ()))
def zhx (x:zdM) (y:Unit):=zqh x.1 x.2.1.1 x.2.1.2.1.1 x.2.2.1 x.2.2.2.1
def zpY (n:Nat) (s:yE) (f_0:Value) (f_1:Int) (t7:Int) (t8:Int):=zH (zhx) (.inl default) n (s,(f_0,(f_1,()),()),t7,t8,()) ()
def zqi:LL ty zdM:=za (lSl 100) (za (lFn 165 (za (znx (zhh (fun x=>(⟨x.1,x.2.1,x.2.2.1⟩:Value)) (fun x=>(x.Kind,x.Int,x.Text,())) (fun _=>rfl) (za zj (za zj (za zrl zn)))) 0) (za (znx (za zj zn) 0) zn))) (za zj (za zj zn)))
def zpM (x:zdM) (y:Unit):Nat:=(x.1.length+Int.toNat x.2.1.2.1.1+Int.toNat x.2.2.1+Int.toNat x.2.2.2.1+1)
def zho:=zb5 base 19 [(165,zj0)] [] [(2,(kpL [0,1,7,8]))] [(2,1,[]),(2,0,(kpL [4]))] [(2,spW zqi z7V (zhx) (.inl default) zsk zpM)] []
theorem zpP:zM zho (lp (body f163) 0):=zw (id:=2) (hl:=rfl)
def zqS (s:yE) (f_0:Value) (f_1:Int):Wy0 (Int):=.bn (zpY (s.length+f_1.toNat +(Int.ofNat s.length).toNat +Int.toNat 0+1) s f_0 f_1 (Int.ofNat s.length) 0) fun r2=>.i (isL r2) (.k (getL r2)) (.k (-1:Int))
def zdo (s:yE) (f_0:Value) (f_1:Int):=(zqS s f_0 f_1).fin default
def zqU:AL base (yE×(Value×(Int×Unit)×Unit)×Unit):=zd (ze (vSl 100)) (zd (ze (vFn 165 (zdA (zzh 65) (zdA (zue (zdA zhl zbW)) zbW)))) zr)
def zgY:=zh zqU fun x=>((zdo x.1 x.2.1.1 x.2.1.2.1.1).1,zPQ (zdo x.1 x.2.1.1 x.2.1.2.1.1).2)
theorem zoi:SdP 163 zgY:=
 sT (cx':=zho) (zi ⟨znl,trivial⟩) call163 func163 (lOK (aC zpP aN))
def zoj:=zbq base 9 [(163,zgY),(165,zj0)]
def zgQ (s:yE) (f_0:Value) (f_1:Int):Wy0 (Bool):=.bn (zdo s f_0 f_1) fun r0=>.k (decide (r0≥0))
def zbB (s:yE) (f_0:Value) (f_1:Int):=(zgQ s f_0 f_1).fin default
def zfX:=zh zqU fun x=>((zbB x.1 x.2.1.1 x.2.1.2.1.1).1,zVj (zbB x.1 x.2.1.1 x.2.1.2.1.1).2)
theorem zm6:SdP 132 zfX:=
 sT (cx':=zoj) (zi ⟨zoi,znl,trivial⟩) call132 func132 (lOK aN)
def zQ4:=zbq base 43 [(132,zfX),(164,zwM),(165,zj0)]
def zEL (fn:Int) (items:yE) (op:Int) (bound:Value):Wy0 (Bool):=.i (decide (fn<0)) (.k false) (.i (decide (fn>3)) (.k false) (.i (decide (op<5)) (.k false) (.i (decide (op>10)) (.k false) (.bn (zuF bound) fun r3=>.i (!r3) (.k false) (.i (fn==0) (.i (bound.Kind != 0) (.k false) (.bn (zbB items bound fn) fun r0=>.k (!r0))) (.i (fn==1) (.i (bound.Kind != 0) (.k false) (.bn (zbB items bound fn) fun r1=>.k (!r1))) (.bn (zbB items bound fn) fun r2=>.k (!r2))))))))
def zkB (fn:Int) (items:yE) (op:Int) (bound:Value):=(zEL fn items op bound).fin default
def zTQ:AL base (Int×yE×Int×Value×Unit):=zd (ze zhl) (zd (ze (vSl 100)) (zd (ze zhl) (zd (ze (zcG 65)) zr)))
def zsE:=zh zTQ fun x=>((zkB x.1 x.2.1 x.2.2.1 x.2.2.2.1).1,zVj (zkB x.1 x.2.1 x.2.2.1 x.2.2.2.1).2)
theorem zz3:SdP 135 zsE:=
 sT (cx':=zQ4) (zi ⟨zm6,zBW,znl,trivial⟩) call135 func135 (lOK aN)
def zFX:=zbq base 7 []
def zwH (t:Term):Wy0 (Bool):=.k (Int.ofNat t.Fs.length==0)
def zha (t:Term):=(zwH t).fin default
def zhg:=zh zPY fun x=>((zha x.1).1,zVj (zha x.1).2)
theorem zkR:SdP 162 zhg:=
 sT (cx':=zFX) (zi trivial) call162 func162 (lOK aN)
abbrev zec:=yC×Unit×Int×Int×Unit
def zsi (s:yC) (t7:Int) (t8:Int):Wy zec (Unit) (Int⊕Unit):=.i (decide (t8<t7)) (.i (decide (0≤t8)&&decide (t8<Int.ofNat s.length)) (.i ((zha (s.getD t8.toNat default)).2) (.k (.inl t8)) (.h (s,(),t7,(IntKind.i64.wrap (t8+1)),()) ())) .d) (.k (.inr ()))
def zi9 (x:zec) (y:Unit):=zsi x.1 x.2.2.1 x.2.2.2.1
def zsM (n:Nat) (s:yC) (t7:Int) (t8:Int):=zH (zi9) (.inl default) n (s,(),t7,t8,()) ()
def zs7:LL ty zec:=za (lSl 28) (za (lFn 162 (zn)) (za zj (za zj zn)))
def zr7 (x:zec) (y:Unit):Nat:=(x.1.length+Int.toNat x.2.2.1+Int.toNat x.2.2.2.1+1)
def ziO:=zb5 base 19 [(162,zhg)] [] [(2,(kpL [0,1,7,8]))] [(2,1,[]),(2,0,(kpL [4]))] [(2,spW zs7 z7V (zi9) (.inl default) zsk zr7)] []
theorem zsg:zM ziO (lp (body f113) 0):=zw (id:=2) (hl:=rfl)
def ztV (s:yC):Wy0 (Int):=.bn (zsM (s.length+(Int.ofNat s.length).toNat +Int.toNat 0+1) s (Int.ofNat s.length) 0) fun r0=>.i (isL r0) (.k (getL r0)) (.k (-1:Int))
def zdQ (s:yC):=(ztV s).fin default
def ztA:AL base (yC×Unit×Unit):=zd (ze (vSl 28)) (zd (ze (vFn 162 zbW)) zr)
def zhG:=zh ztA fun x=>((zdQ x.1).1,zPQ (zdQ x.1).2)
theorem zp9:SdP 113 zhG:=
 sT (cx':=ziO) (zi ⟨zkR,trivial⟩) call113 func113 (lOK (aC zsg aN))
def zqo:=zbq base 9 [(113,zhG),(162,zhg)]
def zh7 (s:yC):Wy0 (Bool):=.bn (zdQ s) fun r0=>.k (decide (r0≥0))
def zdn (s:yC):=(zh7 s).fin default
def zgP:=zh ztA fun x=>((zdn x.1).1,zVj (zdn x.1).2)
theorem zoC:SdP 59 zgP:=
 sT (cx':=zqo) (zi ⟨zp9,zkR,trivial⟩) call59 func59 (lOK aN)
def zKu:=zbq base 5 [(59,zgP),(162,zhg)]
def zzG (a:yC):Wy0 (Bool):=.bn (zdn a) fun r0=>.k r0
def ze6 (a:yC):=(zzG a).fin default
def znF:=zh zXg fun x=>((ze6 x.1).1,zVj (ze6 x.1).2)
theorem zvz:SdP 131 znF:=
 sT (cx':=zKu) (zi ⟨zoC,zkR,trivial⟩) call131 func131 (lOK aN)
def zNl:=zbq base 14 []
def zBw (a:yC):Wy0 (Bool):=.i (Int.ofNat a.length==1) (.i (decide ((0:Int)≤(0:Int))&&decide (0<Int.ofNat a.length)) (.k (Int.ofNat (a.getD (Int.toNat 0) default).Fs.length==0)) .d) (.k false)
def zhy (a:yC):=(zBw a).fin default
def zow:=zh zXg fun x=>((zhy x.1).1,zVj (zhy x.1).2)
theorem zwG:SdP 129 zow:=
 sT (cx':=zNl) (zi trivial) call129 func129 (lOK aN)
def zTD:=zbq base 42 [(64,zj5)]
def zFJ (a:yC):Wy0 (Bool):=.i (Int.ofNat a.length != 1) (.k false) (.i (decide ((0:Int)≤(0:Int))&&decide (0<Int.ofNat a.length)) (.i ((a.getD (Int.toNat 0) default).Cf != 1) (.k false) (.i (decide ((0:Int)≤(0:Int))&&decide (0<Int.ofNat a.length)) (.i (Int.ofNat (a.getD (Int.toNat 0) default).Fs.length != 1) (.k false) (.i (decide ((0:Int)≤(0:Int))&&decide (0<Int.ofNat a.length)) (.i (decide ((0:Int)≤(0:Int))&&decide (0<Int.ofNat (a.getD (Int.toNat 0) default).Fs.length)) (.i (((a.getD (Int.toNat 0) default).Fs.getD (Int.toNat 0) default).Exp==1) (.i (((a.getD (Int.toNat 0) default).Fs.getD (Int.toNat 0) default).At.Kind==2) (.k true) (.bn (zfJ (At.mk ((a.getD (Int.toNat 0) default).Fs.getD (Int.toNat 0) default).At.Kind ((a.getD (Int.toNat 0) default).Fs.getD (Int.toNat 0) default).At.Row ((a.getD (Int.toNat 0) default).Fs.getD (Int.toNat 0) default).At.Ag ((a.getD (Int.toNat 0) default).Fs.getD (Int.toNat 0) default).At.Func ((a.getD (Int.toNat 0) default).Fs.getD (Int.toNat 0) default).At.Items ((a.getD (Int.toNat 0) default).Fs.getD (Int.toNat 0) default).At.Op ((a.getD (Int.toNat 0) default).Fs.getD (Int.toNat 0) default).At.Bd)) fun r0=>.k r0)) (.k false)) .d) .d)) .d)) .d)
def zlG (a:yC):=(zFJ a).fin default
def zuE:=zh zXg fun x=>((zlG x.1).1,zVj (zlG x.1).2)
theorem zBl:SdP 130 zuE:=
 sT (cx':=zTD) (zi ⟨znt,trivial⟩) call130 func130 (lOK aN)
def z34:=zbq base 11 []
def zRA (id:RowID):Wy0 (Bool):=.i (decide (id.Table≥1)) (.k (decide (id.Seq≥1))) (.k false)
def zqX (id:RowID):=(zRA id).fin default
def z4Y:AL base (RowID×Unit):=zd (ze (zcG 49)) zr
def zu3:=zh z4Y fun x=>((zqX x.1).1,zVj (zqX x.1).2)
theorem zAA:SdP 128 zu3:=
 sT (cx':=z34) (zi trivial) call128 func128 (lOK aN)
abbrev zeT:=yE×Unit×Int×Unit
def zev (x_:yE) (i:Int):Wy zeT (Unit) (Bool⊕Unit):=.i (decide (i>0)) (.i (decide (0≤i)&&decide (i<Int.ofNat x_.length)) (.i (decide (0≤IntKind.i64.wrap (i - 1))&&decide (IntKind.i64.wrap (i - 1)<Int.ofNat x_.length)) (.bn (zbh (x_.getD i.toNat default) (x_.getD (IntKind.i64.wrap (i - 1)).toNat default)) fun r0=>.i (decide (r0<0)) (.k (.inl false)) (.h (x_,(),(IntKind.i64.wrap (i - 1)),()) ())) .d) .d) (.k (.inr ()))
def zht (x:zeT) (y:Unit):=zev x.1 x.2.2.1
def zew (n:Nat) (x_:yE) (i:Int):=zH (zht) (.inl default) n (x_,(),i,()) ()
def zqq:LL ty zeT:=za (lSl 100) (za (lFn 124 (zn)) (za zj zn))
def zhp:=zb5 base 25 [(124,zfE)] [] [(2,(kpL [0,1,5]))] [(2,1,[]),(2,0,(kpL [4]))] [(2,spW zqq z7V (zht) (.inl default) zQe fun x y=>(x.1.length+Int.toNat x.2.2.1+1))] []
theorem zpE:zM zhp (lp (body f134) 0):=zw (id:=2) (hl:=rfl)
def zh1 (x_:yE):Wy0 (Bool):=.bn (zew (x_.length+(IntKind.i64.wrap (Int.ofNat x_.length - 1)).toNat +1) x_ (IntKind.i64.wrap (Int.ofNat x_.length - 1))) fun r2=>.i (isL r2) (.k (getL r2)) (.k true)
def zco (x_:yE):=(zh1 x_).fin default
def zrA:AL base (yE×Unit×Unit):=zd (ze (vSl 100)) (zd (ze (vFn 124 zbW)) zr)
def zgS:=zh zrA fun x=>((zco x.1).1,zVj (zco x.1).2)
theorem zon:SdP 134 zgS:=
 sT (cx':=zhp) (zi ⟨zhE,trivial⟩) call134 func134 (lOK (aC zpE aN))
def zcV (zb:yA→Bool×Bool) (zg:yC→Bool×Bool) (zc:yE→Bool×Bool) (zf:Wd→Bool×Bool):=zbq base 149 [(21,zkv),(124,zfE),(126,(zcs zb)),(127,(zhF zg)),(128,zu3),(129,zow),(130,zuE),(131,znF),(132,(zcN zc)),(133,(zds zf)),(134,zgS),(135,zsE)]
def zce (zb:yA→Bool×Bool) (zg:yC→Bool×Bool) (zc:yE→Bool×Bool) (zf:Wd→Bool×Bool) (x_:At):Wy0 (Bool):=.i (x_.Kind==0) (.i (x_.Func != 0) (.k false) (.i (Int.ofNat x_.Items.length != 0) (.k false) (.i (x_.Op != 0) (.k false) (.i (!(x_.Bd.Kind==0&&(x_.Bd.Int==0&&(x_.Bd.Text.toList==(ByteArray.mk #[]).toList&&true)))) (.k false) (.bn (zb x_.Ag) fun r1=>.i (r1) (.k false) (.bn (zqX x_.Row) fun r0=>.i (r0) (.k (Int.ofNat x_.Ag.length==0)) (.k false))))))) (.i (x_.Kind==1) (.i (x_.Func != 0) (.k false) (.i (Int.ofNat x_.Items.length != 0) (.k false) (.i (x_.Op != 0) (.k false) (.i (!(x_.Bd.Kind==0&&(x_.Bd.Int==0&&(x_.Bd.Text.toList==(ByteArray.mk #[]).toList&&true)))) (.k false) (.i (!(x_.Row.Table==0&&(x_.Row.Seq==0&&true))) (.k false) (.bn (zb x_.Ag) fun r3=>.i (r3) (.k false) (.i (Int.ofNat x_.Ag.length==2) (.i (decide ((0:Int)≤(0:Int))&&decide (0<Int.ofNat x_.Ag.length)) (.i (decide ((0:Int)≤(1:Int))&&decide (1<Int.ofNat x_.Ag.length)) (.bn (zcv (x_.Ag.getD (Int.toNat 0) default) (x_.Ag.getD (Int.toNat 1) default)) fun r2=>.k (!r2)) .d) .d) (.k false)))))))) (.i (x_.Kind==2) (.i (x_.Func != 0) (.k false) (.i (Int.ofNat x_.Items.length != 0) (.k false) (.i (x_.Op != 0) (.k false) (.i (!(x_.Bd.Kind==0&&(x_.Bd.Int==0&&(x_.Bd.Text.toList==(ByteArray.mk #[]).toList&&true)))) (.k false) (.i (!(x_.Row.Table==0&&(x_.Row.Seq==0&&true))) (.k false) (.bn (zb x_.Ag) fun r6=>.i (r6) (.k false) (.i (Int.ofNat x_.Ag.length==1) (.i (decide ((0:Int)≤(0:Int))&&decide (0<Int.ofNat x_.Ag.length)) (.bn (zhy (x_.Ag.getD (Int.toNat 0) default)) fun r5=>.i (!r5) (.i (decide ((0:Int)≤(0:Int))&&decide (0<Int.ofNat x_.Ag.length)) (.bn (zlG (x_.Ag.getD (Int.toNat 0) default)) fun r4=>.k (!r4)) .d) (.k false)) .d) (.k false)))))))) (.i (x_.Kind==3) (.i (x_.Func != 0) (.k false) (.i (Int.ofNat x_.Items.length != 0) (.k false) (.i (x_.Op != 0) (.k false) (.i (!(x_.Bd.Kind==0&&(x_.Bd.Int==0&&(x_.Bd.Text.toList==(ByteArray.mk #[]).toList&&true)))) (.k false) (.i (!(x_.Row.Table==0&&(x_.Row.Seq==0&&true))) (.k false) (.bn (zb x_.Ag) fun r8=>.i (r8) (.k false) (.i (Int.ofNat x_.Ag.length==1) (.i (decide ((0:Int)≤(0:Int))&&decide (0<Int.ofNat x_.Ag.length)) (.bn (ze6 (x_.Ag.getD (Int.toNat 0) default)) fun r7=>.k (!r7)) .d) (.k false)))))))) (.i (x_.Kind==4) (.i (!(x_.Row.Table==0&&(x_.Row.Seq==0&&true))) (.k false) (.bn (zb x_.Ag) fun r12=>.i (r12) (.k false) (.bn (zc x_.Items) fun r11=>.i (Int.ofNat x_.Ag.length==0) (.i (decide (Int.ofNat x_.Items.length>0)) (.i (!r11) (.bn (zco x_.Items) fun r10=>.i (r10) (.bn (zkB x_.Func x_.Items x_.Op x_.Bd) fun r9=>.k r9) (.k false)) (.k false)) (.k false)) (.k false)))) (.i (x_.Func != 0) (.k false) (.i (Int.ofNat x_.Items.length != 0) (.k false) (.i (x_.Op != 0) (.k false) (.i (!(x_.Bd.Kind==0&&(x_.Bd.Int==0&&(x_.Bd.Text.toList==(ByteArray.mk #[]).toList&&true)))) (.k false) (.i (!(x_.Row.Table==0&&(x_.Row.Seq==0&&true))) (.k false) (.bn (zb x_.Ag) fun r14=>.i (r14) (.k false) (.k false)))))))))))
def zjI (zb:yA→Bool×Bool) (zg:yC→Bool×Bool) (zc:yE→Bool×Bool) (zf:Wd→Bool×Bool) (x_:At):=(zce zb zg zc zf x_).fin default
theorem zH6 (zb:yA→Bool×Bool) (zg:yC→Bool×Bool) (zc:yE→Bool×Bool) (zf:Wd→Bool×Bool) (v_Row:RowID) (v_Args:yA) (v_Func:Int) (v_Items:yE) (v_Op:Int) (v_Bound:Value)  :zgk (zcV zb zg zc zf) f66 (body f66) ⟨[.pure],[]⟩ [.pure (.agg (base.enc 67 (At.mk (Int.ofNat 0) v_Row v_Args v_Func v_Items v_Op v_Bound)))]=(zce zb zg zc zf (At.mk (Int.ofNat 0) v_Row v_Args v_Func v_Items v_Op v_Bound)).ev noH (fun r=>some (zVj r)) none:=by kernel_rfl
theorem zId (zb:yA→Bool×Bool) (zg:yC→Bool×Bool) (zc:yE→Bool×Bool) (zf:Wd→Bool×Bool) (v_Row:RowID) (v_Args:yA) (v_Func:Int) (v_Items:yE) (v_Op:Int) (v_Bound:Value)  :zgk (zcV zb zg zc zf) f66 (body f66) ⟨[.pure],[]⟩ [.pure (.agg (base.enc 67 (At.mk (Int.ofNat 1) v_Row v_Args v_Func v_Items v_Op v_Bound)))]=(zce zb zg zc zf (At.mk (Int.ofNat 1) v_Row v_Args v_Func v_Items v_Op v_Bound)).ev noH (fun r=>some (zVj r)) none:=by kernel_rfl
theorem zHB (zb:yA→Bool×Bool) (zg:yC→Bool×Bool) (zc:yE→Bool×Bool) (zf:Wd→Bool×Bool) (v_Row:RowID) (v_Args:yA) (v_Func:Int) (v_Items:yE) (v_Op:Int) (v_Bound:Value)  :zgk (zcV zb zg zc zf) f66 (body f66) ⟨[.pure],[]⟩ [.pure (.agg (base.enc 67 (At.mk (Int.ofNat 2) v_Row v_Args v_Func v_Items v_Op v_Bound)))]=(zce zb zg zc zf (At.mk (Int.ofNat 2) v_Row v_Args v_Func v_Items v_Op v_Bound)).ev noH (fun r=>some (zVj r)) none:=by kernel_rfl
theorem zHk (zb:yA→Bool×Bool) (zg:yC→Bool×Bool) (zc:yE→Bool×Bool) (zf:Wd→Bool×Bool) (v_Row:RowID) (v_Args:yA) (v_Func:Int) (v_Items:yE) (v_Op:Int) (v_Bound:Value)  :zgk (zcV zb zg zc zf) f66 (body f66) ⟨[.pure],[]⟩ [.pure (.agg (base.enc 67 (At.mk (Int.ofNat 3) v_Row v_Args v_Func v_Items v_Op v_Bound)))]=(zce zb zg zc zf (At.mk (Int.ofNat 3) v_Row v_Args v_Func v_Items v_Op v_Bound)).ev noH (fun r=>some (zVj r)) none:=by kernel_rfl
theorem zIb (zb:yA→Bool×Bool) (zg:yC→Bool×Bool) (zc:yE→Bool×Bool) (zf:Wd→Bool×Bool) (v_Row:RowID) (v_Args:yA) (v_Func:Int) (v_Items:yE) (v_Op:Int) (v_Bound:Value)  :zgk (zcV zb zg zc zf) f66 (body f66) ⟨[.pure],[]⟩ [.pure (.agg (base.enc 67 (At.mk (Int.ofNat 4) v_Row v_Args v_Func v_Items v_Op v_Bound)))]=(zce zb zg zc zf (At.mk (Int.ofNat 4) v_Row v_Args v_Func v_Items v_Op v_Bound)).ev noH (fun r=>some (zVj r)) none:=by kernel_rfl
theorem zHl (zb:yA→Bool×Bool) (zg:yC→Bool×Bool) (zc:yE→Bool×Bool) (zf:Wd→Bool×Bool) (n:Nat) (v_Row:RowID) (v_Args:yA) (v_Func:Int) (v_Items:yE) (v_Op:Int) (v_Bound:Value)  :zgk (zcV zb zg zc zf) f66 (body f66) ⟨[.pure],[]⟩ [.pure (.agg (base.enc 67 (At.mk (Int.ofNat (n+5)) v_Row v_Args v_Func v_Items v_Op v_Bound)))]=(zce zb zg zc zf (At.mk (Int.ofNat (n+5)) v_Row v_Args v_Func v_Items v_Op v_Bound)).ev noH (fun r=>some (zVj r)) none:=by kernel_rfl
theorem zHv (zb:yA→Bool×Bool) (zg:yC→Bool×Bool) (zc:yE→Bool×Bool) (zf:Wd→Bool×Bool) (n:Nat) (v_Row:RowID) (v_Args:yA) (v_Func:Int) (v_Items:yE) (v_Op:Int) (v_Bound:Value)  :zgk (zcV zb zg zc zf) f66 (body f66) ⟨[.pure],[]⟩ [.pure (.agg (base.enc 67 (At.mk (Int.negSucc n) v_Row v_Args v_Func v_Items v_Op v_Bound)))]=(zce zb zg zc zf (At.mk (Int.negSucc n) v_Row v_Args v_Func v_Items v_Op v_Bound)).ev noH (fun r=>some (zVj r)) none:=by kernel_rfl
theorem zIG (zb:yA→Bool×Bool) (zg:yC→Bool×Bool) (zc:yE→Bool×Bool) (zf:Wd→Bool×Bool) (x_:At):zgk (zcV zb zg zc zf) f66 (body f66) ⟨[.pure],[]⟩ [.pure (.agg (base.enc 67 x_))]=(zce zb zg zc zf x_).ev noH (fun r=>some (zVj r)) none:=by
 obtain ⟨v_Kind,v_Row,v_Args,v_Func,v_Items,v_Op,v_Bound⟩:=x_
 match v_Kind with
 | .ofNat 0=>exact zH6 zb zg zc zf v_Row v_Args v_Func v_Items v_Op v_Bound 
 | .ofNat 1=>exact zId zb zg zc zf v_Row v_Args v_Func v_Items v_Op v_Bound 
 | .ofNat 2=>exact zHB zb zg zc zf v_Row v_Args v_Func v_Items v_Op v_Bound 
 | .ofNat 3=>exact zHk zb zg zc zf v_Row v_Args v_Func v_Items v_Op v_Bound 
 | .ofNat 4=>exact zIb zb zg zc zf v_Row v_Args v_Func v_Items v_Op v_Bound 
 | .ofNat (n+5)=>exact zHl zb zg zc zf n v_Row v_Args v_Func v_Items v_Op v_Bound 
 | .negSucc n=>exact zHv zb zg zc zf n v_Row v_Args v_Func v_Items v_Op v_Bound 
theorem zGk (zb:yA→Bool×Bool) (zg:yC→Bool×Bool) (zc:yE→Bool×Bool) (zf:Wd→Bool×Bool) (zmj:SdP 126 (zcs zb)) (zf4:SdP 127 (zhF zg)) (znO:SdP 132 (zcN zc)) (zf3:SdP 133 (zds zf)):SdP 66 (zmS (zjI zb zg zc zf)):=
 zZj (cx':=(zcV zb zg zc zf)) zEi zgL z9i (zi ⟨zm7,zhE,zmj,zf4,zAA,zwG,zBl,zvz,znO,zf3,zon,zz3,trivial⟩) call66 func66 (c:=body f66) (by kernel_rfl) (zA9 (l:=[]) (by kernel_rfl) trivial) (sg:=⟨[.pure],[]⟩) (A:=zCb) (res:=zVj) (W:=fun x=>zce zb zg zc zf x.1) (z:=default) (fun x=>zIG zb zg zc zf x.1) (fun _=>by kernel_rfl)
def zFP (zbQ:yC→Bool×Bool):=zbq base 11 [(20,(zhF zbQ))]
def zwA (zbQ:yC→Bool×Bool) (a:yC):Wy0 (Bool):=.bn (zbQ a) fun r0=>.i (!r0) (.k true) (.k (Int.ofNat a.length==0))
def zkN (zbQ:yC→Bool×Bool) (a:yC):=(zwA zbQ a).fin default
theorem zDM (zbQ:yC→Bool×Bool) (zxt:SdP 20 (zhF zbQ)):SdP 127 (zhF (zkN zbQ)):=
 sT (cx':=(zFP zbQ)) (zi ⟨zxt,trivial⟩) call127 func127 (lOK aN)
def zFS (zbQ:yC→Bool×Bool):=zbq base 13 [(20,(zhF zbQ))]
def zwD (zbQ:yC→Bool×Bool) (w:Wd):Wy0 (Bool):=.bn (zbQ w.Ann) fun r0=>.i (!r0) (.k true) (.k (Int.ofNat w.Ann.length==0))
def zkF (zbQ:yC→Bool×Bool) (w:Wd):=(zwD zbQ w).fin default
theorem zDN (zbQ:yC→Bool×Bool) (zxt:SdP 20 (zhF zbQ)):SdP 133 (zds (zkF zbQ)):=
 sT (cx':=(zFS zbQ)) (zi ⟨zxt,trivial⟩) call133 func133 (lOK aN)
def zlW (zg:yC→Bool×Bool) (z6:yA→Bool×Int):=zbq base 9 [(127,(zhF zg)),(161,(zcH z6))]
def zfo (zg:yC→Bool×Bool) (z6:yA→Bool×Int) (s:yA):Wy0 (Bool):=.bn (z6 s) fun r0=>.k (decide (r0≥0))
def zcq (zg:yC→Bool×Bool) (z6:yA→Bool×Int) (s:yA):=(zfo zg z6 s).fin default
theorem zkY (zg:yC→Bool×Bool) (z6:yA→Bool×Int) (zf4:SdP 127 (zhF zg)) (znE:SdP 161 (zcH z6)):SdP 126 (zcs (zcq zg z6)):=
 sT (cx':=(zlW zg z6)) (zi ⟨zf4,znE,trivial⟩) call126 func126 (lOK aN)
def znw (zf:Wd→Bool×Bool) (zbb:yE→Bool×Int):=zbq base 9 [(133,(zds zf)),(163,(zc4 zbb))]
def zgm (zf:Wd→Bool×Bool) (zbb:yE→Bool×Int) (s:yE):Wy0 (Bool):=.bn (zbb s) fun r0=>.k (decide (r0≥0))
def zcO (zf:Wd→Bool×Bool) (zbb:yE→Bool×Int) (s:yE):=(zgm zf zbb s).fin default
theorem zml (zf:Wd→Bool×Bool) (zbb:yE→Bool×Int) (zf3:SdP 133 (zds zf)) (zpn:SdP 163 (zc4 zbb)):SdP 132 (zcN (zcO zf zbb)):=
 sT (cx':=(znw zf zbb)) (zi ⟨zf3,zpn,trivial⟩) call132 func132 (lOK aN)
abbrev zc8:=yA×Unit×Int×Int×Unit
def zmZ (zg:yC→Bool×Bool) (s:yA) (t7:Int) (t8:Int):Wy zc8 (Unit) (Int⊕Unit):=.i (decide (t8<t7)) (.i (decide (0≤t8)&&decide (t8<Int.ofNat s.length)) (.bn (zg (s.getD t8.toNat default)) fun r0=>.i (r0) (.k (.inl t8)) (.h (s,(),t7,(IntKind.i64.wrap (t8+1)),()) ())) .d) (.k (.inr ()))
def zfP (zg:yC→Bool×Bool) (x:zc8) (y:Unit):=zmZ zg x.1 x.2.2.1 x.2.2.2.1
def zm0 (zg:yC→Bool×Bool) (n:Nat) (s:yA) (t7:Int) (t8:Int):=zH (zfP zg) (.inl default) n (s,(),t7,t8,()) ()
def zm2:LL ty zc8:=za (lSl 23) (za (lFn 127 (zn)) (za zj (za zj zn)))
def zmC (x:zc8) (y:Unit):Nat:=(x.1.length+Int.toNat x.2.2.1+Int.toNat x.2.2.2.1+1)
def zfQ (zg:yC→Bool×Bool):=zb5 base 19 [(127,(zhF zg))] [] [(2,(kpL [0,1,7,8]))] [(2,1,[]),(2,0,(kpL [4]))] [(2,spW zm2 z7V (zfP zg) (.inl default) zsk zmC)] []
theorem zmD (zg:yC→Bool×Bool):zM (zfQ zg) (lp (body f161) 0):=zw (id:=2) (hl:=rfl)
def znD (zg:yC→Bool×Bool) (s:yA):Wy0 (Int):=.bn (zm0 zg (s.length+(Int.ofNat s.length).toNat +Int.toNat 0+1) s (Int.ofNat s.length) 0) fun r2=>.i (isL r2) (.k (getL r2)) (.k (-1:Int))
def zcF (zg:yC→Bool×Bool) (s:yA):=(znD zg s).fin default
theorem zlQ (zg:yC→Bool×Bool) (zf4:SdP 127 (zhF zg)):SdP 161 (zcH (zcF zg)):=
 sT (cx':=(zfQ zg)) (zi ⟨zf4,trivial⟩) call161 func161 (lOK (aC (zmD zg) aN))
abbrev zdK:=yE×Unit×Int×Int×Unit
def zoY (zf:Wd→Bool×Bool) (s:yE) (t7:Int) (t8:Int):Wy zdK (Unit) (Int⊕Unit):=.i (decide (t8<t7)) (.i (decide (0≤t8)&&decide (t8<Int.ofNat s.length)) (.bn (zf (s.getD t8.toNat default)) fun r0=>.i (r0) (.k (.inl t8)) (.h (s,(),t7,(IntKind.i64.wrap (t8+1)),()) ())) .d) (.k (.inr ()))
def zgO (zf:Wd→Bool×Bool) (x:zdK) (y:Unit):=zoY zf x.1 x.2.2.1 x.2.2.2.1
def zoQ (zf:Wd→Bool×Bool) (n:Nat) (s:yE) (t7:Int) (t8:Int):=zH (zgO zf) (.inl default) n (s,(),t7,t8,()) ()
def zo3:LL ty zdK:=za (lSl 100) (za (lFn 133 (zn)) (za zj (za zj zn)))
def zop (x:zdK) (y:Unit):Nat:=(x.1.length+Int.toNat x.2.2.1+Int.toNat x.2.2.2.1+1)
def zgR (zf:Wd→Bool×Bool):=zb5 base 19 [(133,(zds zf))] [] [(2,(kpL [0,1,7,8]))] [(2,1,[]),(2,0,(kpL [4]))] [(2,spW zo3 z7V (zgO zf) (.inl default) zsk zop)] []
theorem zor (zf:Wd→Bool×Bool):zM (zgR zf) (lp (body f163) 0):=zw (id:=2) (hl:=rfl)
def zpF (zf:Wd→Bool×Bool) (s:yE):Wy0 (Int):=.bn (zoQ zf (s.length+(Int.ofNat s.length).toNat +Int.toNat 0+1) s (Int.ofNat s.length) 0) fun r2=>.i (isL r2) (.k (getL r2)) (.k (-1:Int))
def zdb (zf:Wd→Bool×Bool) (s:yE):=(zpF zf s).fin default
theorem znn (zf:Wd→Bool×Bool) (zf3:SdP 133 (zds zf)):SdP 163 (zc4 (zdb zf)):=
 sT (cx':=(zgR zf)) (zi ⟨zf3,trivial⟩) call163 func163 (lOK (aC (zor zf) aN))
def zer:Nat→(yC→Bool×Bool)×(At→Bool×Bool)×(yC→Bool×Bool)×(Wd→Bool×Bool)×(yA→Bool×Int)×(yA→Bool×Bool)×(yE→Bool×Int)×(yE→Bool×Bool)
 | 0=>(fun _=>(false,default),fun _=>(false,default),fun _=>(false,default),fun _=>(false,default),fun _=>(false,default),fun _=>(false,default),fun _=>(false,default),fun _=>(false,default))
 | n+1=>(zm9 ((zer n).2.1),zjI ((zer n).2.2.2.2.2.1) ((zer n).2.2.1) ((zer n).2.2.2.2.2.2.2) ((zer n).2.2.2.1),zkN ((zer n).1),zkF ((zer n).1),zcF ((zer n).2.2.1),zcq ((zer n).2.2.1) ((zer n).2.2.2.2.1),zdb ((zer n).2.2.2.1),zcO ((zer n).2.2.2.1) ((zer n).2.2.2.2.2.2.1))
def zky (n:Nat):yC→Bool×Bool:=(zer n).1
def zm4 (n:Nat):At→Bool×Bool:=(zer n).2.1
def zfg (n:Nat):yC→Bool×Bool:=(zer n).2.2.1
def zff (n:Nat):Wd→Bool×Bool:=(zer n).2.2.2.1
def zcI (n:Nat):yA→Bool×Int:=(zer n).2.2.2.2.1
def zct (n:Nat):yA→Bool×Bool:=(zer n).2.2.2.2.2.1
def zc5 (n:Nat):yE→Bool×Int:=(zer n).2.2.2.2.2.2.1
def zcM (n:Nat):yE→Bool×Bool:=(zer n).2.2.2.2.2.2.2
theorem zRI (n:Nat):zky (n+1)=zm9 (zm4 n):=rfl
theorem zKx (n:Nat):zm4 (n+1)=zjI (zct n) (zfg n) (zcM n) (zff n):=rfl
theorem zFQ (n:Nat):zfg (n+1)=zkN (zky n):=rfl
theorem zGD (n:Nat):zff (n+1)=zkF (zky n):=rfl
theorem zmU (n:Nat):zcI (n+1)=zcF (zfg n):=rfl
theorem zlS (n:Nat):zct (n+1)=zcq (zfg n) (zcI n):=rfl
theorem zoH (n:Nat):zc5 (n+1)=zdb (zff n):=rfl
theorem znv (n:Nat):zcM (n+1)=zcO (zff n) (zc5 n):=rfl
theorem z1j:∀ n,SdP 20 (zhF (zky n))∧SdP 66 (zmS (zm4 n))∧SdP 127 (zhF (zfg n))∧SdP 133 (zds (zff n))∧SdP 161 (zcH (zcI n))∧SdP 126 (zcs (zct n))∧SdP 163 (zc4 (zc5 n))∧SdP 132 (zcN (zcM n))
 | 0=>⟨z8 call20 (fun _=>rfl),z8 call66 (fun _=>rfl),z8 call127 (fun _=>rfl),z8 call133 (fun _=>rfl),z8 call161 (fun _=>rfl),z8 call126 (fun _=>rfl),z8 call163 (fun _=>rfl),z8 call132 (fun _=>rfl)⟩
 | n+1=>by
  have ih:=z1j n;exact ⟨zLT _ (ih.2.1),zGk _ _ _ _ (ih.2.2.2.2.2.1) (ih.2.2.1) (ih.2.2.2.2.2.2.2) (ih.2.2.2.1),zDM _ (ih.1),zDN _ (ih.1),zlQ _ (ih.2.2.1),zkY _ _ (ih.2.2.1) (ih.2.2.2.2.1),znn _ (ih.2.2.2.1),zml _ _ (ih.2.2.2.1) (ih.2.2.2.2.2.2.1)⟩
def zbX:yC→Bool×Bool:=zky 1000
def zcb:Ab.Spec ty:=zhF zbX
theorem zci:SdP 20 zcb:=(z1j 1000).1
def zPN (r:yC×Int):ARes ty:=⟨[.own 28 r.1,.pure (.lit (.int .i64 r.2))],[]⟩
def zT2:AL zbP (yC×((yG×Unit)×Unit)×Unit):=zd (ze (vSl 28)) (zd (ze (vFn 84 (zdA (zue (zdA (vSl 51) zbW)) zbW))) zr)
def zlp (F:yC→yG→Bool×(yC×Int)):Ab.Spec ty:=zh zT2 fun x=>((F x.1 x.2.1.1.1).1,zPN (F x.1 x.2.1.1.1).2)
def zLa:AL zbP (At×((yG×Unit)×Unit)×Unit):=zd (ze (zcG 67)) (zd (ze (vFn 84 (zdA (zue (zdA (vSl 51) zbW)) zbW))) zr)
def zlu (F:At→yG→Bool×(yC×Int)):Ab.Spec ty:=zh zLa fun x=>((F x.1 x.2.1.1.1).1,zPN (F x.1 x.2.1.1.1).2)
def zD9 (k:Go.Value) (l:List (Go.Value×Int)):Option Int:=zSL (ty:=ty) (V:=3) k l
def zbcz (k:Go.Value) (l:List (Go.Value×Int)):Bool:=zIw (ty:=ty) (V:=3) k l
def zbct (k:Go.Value) (x:Int) (l:List (Go.Value×Int)):List (Go.Value×Int):=zGI (ty:=ty) (V:=3) k x l
def zVA (r:ByteArray):ARes ty:=⟨[.pure (.lit (.string r))],[]⟩
def z0z:AL zbP (yC×Unit):=zd (ze (vSl 28)) zr
def zu0 (F:yC→Bool×ByteArray):Ab.Spec ty:=zh z0z fun x=>((F x.1).1,zVA (F x.1).2)
def zNu:AL zbP (At×Unit):=zd (ze (zcG 67)) zr
def zme (F:At→Bool×ByteArray):Ab.Spec ty:=zh zNu fun x=>((F x.1).1,zVA (F x.1).2)
def zI1:AL zbP (yD×Unit):=zd (ze (vSl 69)) zr
def zgq (F:yD→Bool×ByteArray):Ab.Spec ty:=zh zI1 fun x=>((F x.1).1,zVA (F x.1).2)
def zN2:=zbq base 2 []
def zO1:Wy0 (List ByteArray):=.k [ByteArray.mk #[(67:UInt8),(79:UInt8),(85:UInt8),(78:UInt8),(84:UInt8)],ByteArray.mk #[(83:UInt8),(85:UInt8),(77:UInt8)],ByteArray.mk #[(77:UInt8),(73:UInt8),(78:UInt8)],ByteArray.mk #[(77:UInt8),(65:UInt8),(88:UInt8)]]
def zb8:Bool×List ByteArray:=(zO1).fin default
def zLt (r:List ByteArray):ARes ty:=⟨[.own 9 r],[]⟩
def zPh:AL base (Unit):=zr
def zzk:=zh zPh fun x=>((zb8 ).1,zLt (zb8 ).2)
theorem zJi:SdP 198 zzk:=
 sT (cx':=zN2) (zi trivial) call198 func198 (lOK aN) (sg:=⟨[.own 9],[]⟩)
def zNT:=zbq base 2 []
def zP6:Wy0 (List ByteArray):=.k [ByteArray.mk #[(61:UInt8)],ByteArray.mk #[(60:UInt8),(62:UInt8)],ByteArray.mk #[(60:UInt8)],ByteArray.mk #[(60:UInt8),(61:UInt8)],ByteArray.mk #[(62:UInt8)],ByteArray.mk #[(62:UInt8),(61:UInt8)]]
def zdJ:Bool×List ByteArray:=(zP6).fin default
def zy8:=zh zPh fun x=>((zdJ ).1,zLt (zdJ ).2)
theorem zJf:SdP 199 zy8:=
 sT (cx':=zNT) (zi trivial) call199 func199 (lOK aN) (sg:=⟨[.own 9],[]⟩)
def strings_Join (l:List ByteArray) (sep:ByteArray):Bool×ByteArray:=zZb l sep
def zu1:Ab.Spec ty:=zh (cx:=zbP) (zd (ze (vSl 9)) (zd (ze zyr) zr)) fun x=>((strings_Join x.1 x.2.1).1,⟨[.pure (.lit (.string (strings_Join x.1 x.2.1).2))],[]⟩)
theorem zzF:Sound Tryz.prog zbP 169 zu1:=zbci (T:=9) zLm rfl Go.Proofs.Tryz.lays156 Go.Proofs.Tryz.Builder_Extra_156 call169 (fun s:ByteArray=>s) (fun _=>rfl) strings_Join (fun l sep=>congrArg (fun l=>zZb l sep) (List.map_id' (α:=ByteArray) l).symm)
def strconv_Itoa (x:Int):Bool×ByteArray:=zTq x
def zBH:Ab.Spec ty:=zh (cx:=base) (zd (ze (zhQ .i64)) zr) fun x=>((strconv_Itoa x.1).1,⟨[.pure (.lit (.string (strconv_Itoa x.1).2))],[]⟩)
theorem zG6:SdP 168 zBH:=zbcH zgL Go.Proofs.Tryz.laysM171 call168 (fun _ h=>h.1)
def z2n:=zbq base 15 [(128,zu3),(168,zBH)]
def zOD (id:RowID):Wy0 (ByteArray):=.bn (zqX id) fun r2=>.i (!r2) (.k (ByteArray.mk #[])) (.bn (strconv_Itoa id.Table) fun r1=>.i (decide ((ByteArray.mk #[(116:UInt8)]).size+r1.size≤9223372036854775807)) (.i (decide ((ByteArray.mk #[(116:UInt8)]++r1).size+(ByteArray.mk #[(46:UInt8)]).size≤9223372036854775807)) (.bn (strconv_Itoa id.Seq) fun r0=>.i (decide ((ByteArray.mk #[(116:UInt8)]++r1++ByteArray.mk #[(46:UInt8)]).size+r0.size≤9223372036854775807)) (.k (ByteArray.mk #[(116:UInt8)]++r1++ByteArray.mk #[(46:UInt8)]++r0)) .d) .d) .d)
def zxH (id:RowID):=(zOD id).fin default
def zIo:=zh z4Y fun x=>((zxH x.1).1,zVA (zxH x.1).2)
theorem zVf:SdP 195 zIo:=
 sT (cx':=z2n) (zi ⟨zAA,zG6,trivial⟩) call195 func195 (lOK aN)
def zjb (m b:Int):Bool×ByteArray:=zxr m b
def zus:Ab.Spec ty:=zh (cx:=base) (zd (ze (zhQ .i64)) (zd (ze (zhQ .i64)) zr)) fun x=>((zjb x.1 x.2.1).1,⟨[.pure (.lit (.string (zjb x.1 x.2.1).2))],[]⟩)
theorem zBd:SdP 227 zus:=z4L zgL Go.Proofs.Tryz.laysM173 call227 (fun _ h=>h.1)
end Go.Proofs.YtljlfiomikifjaaGreatDoor
end
