/- Texts of this claim, joined (the program, its functions in plain words, and what they compute). -/
import Derived.Test.YtoknknbmfmddbaaGreatDoorGC1
set_option autoImplicit false
set_option linter.unusedVariables false
set_option linter.unusedSectionVars false
set_option linter.unusedSimpArgs false
set_option maxRecDepth 1000000
set_option maxHeartbeats 0
noncomputable section
namespace Go.Proofs.YtoknknbmfmddbaaGreatDoor
open Go Go.Ab
open Go.Proofs.Tryz
abbrev zcq:=yG×yG×Unit×yG×Int×Int×Unit
abbrev zf7:=Int⊕(yG×yG)
def zkN (s1:yG) (s2:yG) (t11:yG) (t12:Int) (t13:Int):Wy zcq Unit zf7:=.i (decide (t13<t12)) (.i (decide (0<=t13)&&decide (t13<Int.ofNat t11.length)) (.i (decide (t13≥Int.ofNat s2.length)) (.k (.inl 1)) (.i (decide (0<=t13)&&decide (t13<Int.ofNat s2.length)) (.bn (zki (t11.getD t13.toNat default) (s2.getD t13.toNat default)) λr0=>.i (r0 != 0) (.k (.inl (r0))) (.h (s1,s2,(),t11,t12,(IntKind.i64.wrap (t13+1)),()) ())) .d)) .d) (.k (.inr (s1,s2)))
def zeT (x:zcq) (y:Unit):=zkN x.1 x.2.1 x.2.2.2.1 x.2.2.2.2.1 x.2.2.2.2.2.1
def zkD (n:Nat) (s1:yG) (s2:yG) (t11:yG) (t12:Int) (t13:Int):=zA (zeT) (.inl default) n (s1,s2,(),t11,t12,t13,()) ()
def zkv (r:zf7):LTree ty:=.ite (isL r) (.done .ret [.lit (.int .i64 (getL r))] []) (.done (.exit 0) [.sl 79 (getR r).1,.sl 79 (getR r).2] [])
def zkM:LL ty zcq:=za (lSl 79) (za (lSl 79) (za (lFn 131 (zr)) (za (lSl 79) (za zj (za zj zr)))))
def zkx (x:zcq) (y:Unit):Nat:=(x.1.length+x.2.1.length+x.2.2.2.1.length+Int.toNat x.2.2.2.2.1+Int.toNat x.2.2.2.2.2.1+1)
def zeS:=zc6 base 39 [(131,zna)] [] [(2,(kpL [0,1,2,11,12,13]))] [(2,1,(kpL [0,1])),(2,0,(kpL [6]))] [(2,spW zkM z2k (zeT) (.inl default) zkv zkx)] []
theorem zky:zS zeS (lp (body f130) 0):=zI (id:=2) (hl:=rfl)
def zk4 (s1:yG) (s2:yG):Wy0 (Int):=.bn (zkD (s1.length+s2.length+s1.length+(Int.ofNat s1.length).toNat +Int.toNat 0+1) s1 s2 s1 (Int.ofNat s1.length) 0) λr2=>.i (isL r2) (.k (getL r2)) (.i (decide (Int.ofNat (getR r2).1.length<Int.ofNat (getR r2).2.length)) (.k (-1:Int)) (.k 0))
def zb5 (s1:yG) (s2:yG):=(zk4 s1 s2).fin default
def zk2:AL base (yG×yG×Unit×Unit):=zg (zh (vSl 79)) (zg (zh (vSl 79)) (zg (zh (vFn 131 zcX)) zC))
def zeD:=zi zk2 λx=>((zb5 x.1 x.2.1).1,zNi (zb5 x.1 x.2.1).2)
theorem zkb:SdP 130 zeD:=
 sT (cx':=zeS) (zm ⟨zrI,trivial⟩) call130 func130 (lOK (aC zky aN))
def zQx:=zbN base 8 [(130,zeD),(131,zna)]
def zD9 (a:yG) (b:yG):Wy0 (Int):=.bn (zb5 a b) λr0=>.k r0
def zpr (a:yG) (b:yG):=(zD9 a b).fin default
def zSt:AL base (yG×yG×Unit):=zg (zh (vSl 79)) (zg (zh (vSl 79)) zC)
def zAJ:=zi zSt λx=>((zpr x.1 x.2.1).1,zNi (zpr x.1 x.2.1).2)
theorem zKP:SdP 77 zAJ:=
 sT (cx':=zQx) (zm ⟨zkb,zrI,trivial⟩) call77 func77 (lOK aN)
def zSa:=zbN base 10 [(77,zAJ)]
def zF4 (x_:Row) (y_:Row):Wy0 (Int):=.bn (zpr x_.Values y_.Values) λr0=>.k r0
def zbV (x_:Row) (y_:Row):=(zF4 x_ y_).fin default
def zS2:AL base (Row×Row×Unit):=zg (zh (zda 54)) (zg (zh (zda 54)) zC)
def zdf:=zi zS2 λx=>((zbV x.1 x.2.1).1,zNi (zbV x.1 x.2.1).2)
theorem zdN:SdP 53 zdf:=
 sT (cx':=zSa) (zm ⟨zKP,trivial⟩) call53 func53 (lOK aN)
def zSv:=zbN base 16 [(53,zdf),(115,zoq)]
def zFn (x_:Row) (y_:Row):Wy0 (Bool):=.bn (zbV x_ y_) λr1=>.i (r1==0) (.bn (zgB x_.Ann y_.Ann) λr0=>.k r0) (.k false)
def zq7 (x_:Row) (y_:Row):=(zFn x_ y_).fin default
def zuT:=zi zS2 λx=>((zq7 x.1 x.2.1).1,zSj (zq7 x.1 x.2.1).2)
theorem zAQ:SdP 60 zuT:=
 sT (cx':=zSv) (zm ⟨zdN,zt3,trivial⟩) call60 func60 (lOK aN)
abbrev zdv:=yF×Unit×yF×Int×Int×Unit
def zbW (s2:yF) (t15:yF) (t16:Int) (t17:Int):Wy zdv Unit (Bool⊕Unit):=.i (decide (t17<t16)) (.i (decide (0<=t17)&&decide (t17<Int.ofNat t15.length)) (.i (decide (0<=t17)&&decide (t17<Int.ofNat s2.length)) (.bn (zq7 (t15.getD t17.toNat default) (s2.getD t17.toNat default)) λr0=>.i (!r0) (.k (.inl false)) (.h (s2,(),t15,t16,(IntKind.i64.wrap (t17+1)),()) ())) .d) .d) (.k (.inr ()))
def zd0 (x:zdv) (y:Unit):=zbW x.1 x.2.2.1 x.2.2.2.1 x.2.2.2.2.1
def zgL (n:Nat) (s2:yF) (t15:yF) (t16:Int) (t17:Int):=zA (zd0) (.inl default) n (s2,(),t15,t16,t17,()) ()
def znr (r:Bool⊕Unit):LTree ty:=.ite (isL r) (.done .ret [.lit (.bool (getL r))] []) (.done (.exit 0) [] [])
def znR:LL ty zdv:=za (lSl 54) (za (lFn 60 (zr)) (za (lSl 54) (za zj (za zj zr))))
def znf (x:zdv) (y:Unit):Nat:=(x.1.length+x.2.2.1.length+Int.toNat x.2.2.2.1+Int.toNat x.2.2.2.2.1+1000)
def zgK:=zc6 base 32 [(60,zuT)] [] [(4,(kpL [1,2,15,16,17]))] [(4,1,[]),(4,0,(kpL [6]))] [(4,spW znR z2k (zd0) (.inl default) znr znf)] []
theorem zng:zS zgK (lp (body f59) 0):=zI (id:=4) (hl:=rfl)
def zgO (s1:yF) (s2:yF):Wy0 (Bool):=.i (Int.ofNat s1.length != Int.ofNat s2.length) (.k false) (.bn (zgL (s2.length+s1.length+(Int.ofNat s1.length).toNat +Int.toNat 0+1000) s2 s1 (Int.ofNat s1.length) 0) λr2=>.i (isL r2) (.k (getL r2)) (.k true))
def zb3 (s1:yF) (s2:yF):=(zgO s1 s2).fin default
def zoI:AL base (yF×yF×Unit×Unit):=zg (zh (vSl 54)) (zg (zh (vSl 54)) (zg (zh (vFn 60 zcX)) zC))
def zgd:=zi zoI λx=>((zb3 x.1 x.2.1).1,zSj (zb3 x.1 x.2.1).2)
theorem zmF:SdP 59 zgd:=
 sT (cx':=zgK) (zm ⟨zAQ,trivial⟩) call59 func59 (lOK (aC zng aN))
abbrev zfM:=yH×yH×Int×Int×Unit
def zdp (s1:yH) (s2:yH) (t12:Int) (t13:Int):Wy zfM Unit (Bool⊕Unit):=.i (decide (t13<t12)) (.i (decide (0<=t13)&&decide (t13<Int.ofNat s1.length)) (.i (decide (0<=t13)&&decide (t13<Int.ofNat s2.length)) (.i (!((s1.getD t13.toNat default).Name.toList==(s2.getD t13.toNat default).Name.toList&&((s1.getD t13.toNat default).Type_==(s2.getD t13.toNat default).Type_&&true))) (.k (.inl false)) (.h (s1,s2,t12,(IntKind.i64.wrap (t13+1)),()) ())) .d) .d) (.k (.inr ()))
def zhz (x:zfM) (y:Unit):=zdp x.1 x.2.1 x.2.2.1 x.2.2.2.1
def zmg (n:Nat) (s1:yH) (s2:yH) (t12:Int) (t13:Int):=zA (zhz) (.inl default) n (s1,s2,t12,t13,()) ()
def zxo:LL ty zfM:=za (lSl 75) (za (lSl 75) (za zj (za zj zr)))
def zw0 (x:zfM) (y:Unit):Nat:=(x.1.length+x.2.1.length+Int.toNat x.2.2.1+Int.toNat x.2.2.2.1+1000)
def zme:=zc6 base 26 [] [] [(4,(kpL [0,1,12,13]))] [(4,1,[]),(4,0,(kpL [4]))] [(4,spW zxo z2k (zhz) (.inl default) znr zw0)] []
theorem zwN:zS zme (lp (body f58) 0):=zI (id:=4) (hl:=rfl)
def zmL (s1:yH) (s2:yH):Wy0 (Bool):=.i (Int.ofNat s1.length != Int.ofNat s2.length) (.k false) (.bn (zmg (s1.length+s2.length+(Int.ofNat s1.length).toNat +Int.toNat 0+1000) s1 s2 (Int.ofNat s1.length) 0) λr0=>.i (isL r0) (.k (getL r0)) (.k true))
def zd8 (s1:yH) (s2:yH):=(zmL s1 s2).fin default
def zye:AL base (yH×yH×Unit):=zg (zh (vSl 75)) (zg (zh (vSl 75)) zC)
def zlE:=zi zye λx=>((zd8 x.1 x.2.1).1,zSj (zd8 x.1 x.2.1).2)
theorem zvb:SdP 58 zlE:=
 sT (cx':=zme) (zm trivial) call58 func58 (lOK (aC zwN aN))
def zVZ:=zbN base 17 [(58,zlE),(59,zgd),(60,zuT)]
def zJP (a:Relation) (b:Relation):Wy0 (Bool):=.bn (zd8 a.Columns b.Columns) λr1=>.i (r1) (.bn (zb3 a.Rows b.Rows) λr0=>.k r0) (.k false)
def zfZ (a:Relation) (b:Relation):=(zJP a b).fin default
def zWV:AL base (Relation×Relation×Unit):=zg (zh (zda 25)) (zg (zh (zda 25)) zC)
def zxD:=zi zWV λx=>((zfZ x.1 x.2.1).1,zSj (zfZ x.1 x.2.1).2)
theorem zCP:SdP 16 zxD:=
 sT (cx':=zVZ) (zm ⟨zvb,zmF,zAQ,trivial⟩) call16 func16 (lOK aN)
def zT6:AL base (yB×Unit):=zg (zh (vSl 107)) zC
def ziP (F:yB->Bool×Bool):Ab.Spec ty:=zi zT6 λx=>((F x.1).1,zSj (F x.1).2)
def zmS (F:At->Bool×Bool):Ab.Spec ty:=zi z3t λx=>((F x.1).1,zSj (F x.1).2)
def zII:AL base (Wd×Unit):=zg (zh (zda 169)) zC
def zdu (F:Wd->Bool×Bool):Ab.Spec ty:=zi zII λx=>((F x.1).1,zSj (F x.1).2)
def zoF:AL base (yA×Unit×Unit):=zg (zh (vSl 51)) (zg (zh (vFn 174 zcX)) zC)
def zcI (F:yA->Bool×Int):Ab.Spec ty:=zi zoF λx=>((F x.1).1,zNi (F x.1).2)
def zcn (F:yA->Bool×Bool):Ab.Spec ty:=zi zoF λx=>((F x.1).1,zSj (F x.1).2)
def zrk:AL base (yD×Unit×Unit):=zg (zh (vSl 169)) (zg (zh (vFn 179 zcX)) zC)
def zc3 (F:yD->Bool×Int):Ab.Spec ty:=zi zrk λx=>((F x.1).1,zNi (F x.1).2)
def zcO (F:yD->Bool×Bool):Ab.Spec ty:=zi zrk λx=>((F x.1).1,zSj (F x.1).2)
def zKC:=zbN base 11 []
def zzV (x_:At):Wy0 (Bool):=.i (x_.Kind==3) (.k true) (.k (x_.Kind==4))
def zfS (x_:At):=(zzV x_).fin default
def zkk:=zi z3t λx=>((zfS x.1).1,zSj (zfS x.1).2)
theorem znm:SdP 105 zkk:=
 sT (cx':=zKC) (zm trivial) call105 func105 (lOK aN)
def zo1 (F:yB->Bool×Int):Ab.Spec ty:=zi zT6 λx=>((F x.1).1,zNi (F x.1).2)
abbrev ztt:=Int×Unit×yB×Int×Int×yC×Int×Int×yA×Int×Int×Unit
abbrev zGu:=Int×yB×Int×Int×yC×Int×Int×Fc
abbrev zs6:=Int×yB×Int×Int×yC×Int×Int×yD×Int×Int×Unit
abbrev zGz:=Int×yB×Int×Int×yC×Int×Int
abbrev zsT:=Int×yB×Int×Int×yC×Int×Int×Unit
abbrev zFx:=Int×yB×Int×Int
abbrev zs9:=Int×yB×Int×Int×Unit
def zkF (zp:yB->Bool×Int) (n_:Int) (t12:yB) (t13:Int) (t14:Int) (t25:yC) (t26:Int) (t27:Int) (t33:yA) (t34:Int) (t35:Int) (f:Fc):Wy ztt (Fc×Unit) zGu:=.i (decide (t35<t34)) (.i (decide (0<=t35)&&decide (t35<Int.ofNat t33.length)) (.bn (zp (t33.getD t35.toNat default)) λr0=>.h ((IntKind.i64.wrap (n_+r0)),(),t12,t13,t14,t25,t26,t27,t33,t34,(IntKind.i64.wrap (t35+1)),()) (f,())) .d) (.k (n_,t12,t13,t14,t25,t26,t27,f))
def zuM (zp:yB->Bool×Int) (x:ztt) (y:Fc×Unit):=zkF zp x.1 x.2.2.1 x.2.2.2.1 x.2.2.2.2.1 x.2.2.2.2.2.1 x.2.2.2.2.2.2.1 x.2.2.2.2.2.2.2.1 x.2.2.2.2.2.2.2.2.1 x.2.2.2.2.2.2.2.2.2.1 x.2.2.2.2.2.2.2.2.2.2.1 y.1
def zBM (zp:yB->Bool×Int) (n:Nat) (n_:Int) (t12:yB) (t13:Int) (t14:Int) (t25:yC) (t26:Int) (t27:Int) (t33:yA) (t34:Int) (t35:Int) (f:Fc):=zA (zuM zp) default n (n_,(),t12,t13,t14,t25,t26,t27,t33,t34,t35,()) (f,())
def zM6 (r:zGu):LTree ty:=.done (.exit 4) [.lit (.int .i64 r.1),.ptr 248 0,.sl 107 r.2.1,.lit (.int .i64 r.2.2.1),.lit (.int .i64 r.2.2.2.1),.sl 145 r.2.2.2.2.1,.lit (.int .i64 r.2.2.2.2.2.1),.lit (.int .i64 r.2.2.2.2.2.2.1)] [.box (base.enc 145 r.2.2.2.2.2.2.2) false]
def zOv:LL ty ztt:=za zj (za (zfi 248 0) (za (lSl 107) (za zj (za zj (za (lSl 145) (za zj (za zj (za (lSl 51) (za zj (za zj zr))))))))))
def zOF:BL ty (Fc×Unit):=ziu (zg7 (λx=>(⟨⟨x.1,⟨x.2.1,x.2.2.1⟩,x.2.2.2.1,x.2.2.2.2.1,x.2.2.2.2.2.1,x.2.2.2.2.2.2.1,⟨x.2.2.2.2.2.2.2.1,x.2.2.2.2.2.2.2.2.1,x.2.2.2.2.2.2.2.2.2.1⟩⟩,x.2.2.2.2.2.2.2.2.2.2.1⟩:Fc)) (λx=>(x.At.Kind,x.At.Row.Table,x.At.Row.Seq,x.At.Ag,x.At.Func,x.At.Items,x.At.Op,x.At.Bd.Kind,x.At.Bd.Int,x.At.Bd.Text,x.Exp,())) (λ_=>rfl) (za (zbL .i64) (za (zbL .i64) (za (zbL .i64) (za (lSl 51) (za (zbL .i64) (za (lSl 169) (za (zbL .i64) (za (zbL .i64) (za (zbL .i64) (za zG5 (za (zbL .i64) zr)))))))))))) false (zbD)
def zkC (zp:yB->Bool×Int) (n_:Int) (t12:yB) (t13:Int) (t14:Int) (t25:yC) (t26:Int) (t27:Int) (t46:yD) (t47:Int) (t48:Int):Wy zs6 Unit zGz:=.i (decide (t48<t47)) (.i (decide (0<=t48)&&decide (t48<Int.ofNat t46.length)) (.bn (zp (t46.getD t48.toNat default).Ann) λr2=>.h ((IntKind.i64.wrap (n_+IntKind.i64.wrap (1+r2))),t12,t13,t14,t25,t26,t27,t46,t47,(IntKind.i64.wrap (t48+1)),()) ()) .d) (.k (n_,t12,t13,t14,t25,t26,t27))
def zur (zp:yB->Bool×Int) (x:zs6) (y:Unit):=zkC zp x.1 x.2.1 x.2.2.1 x.2.2.2.1 x.2.2.2.2.1 x.2.2.2.2.2.1 x.2.2.2.2.2.2.1 x.2.2.2.2.2.2.2.1 x.2.2.2.2.2.2.2.2.1 x.2.2.2.2.2.2.2.2.2.1
def zBV (zp:yB->Bool×Int) (n:Nat) (n_:Int) (t12:yB) (t13:Int) (t14:Int) (t25:yC) (t26:Int) (t27:Int) (t46:yD) (t47:Int) (t48:Int):=zA (zur zp) default n (n_,t12,t13,t14,t25,t26,t27,t46,t47,t48,()) ()
def zMS (r:zGz):LTree ty:=.done (.exit 6) [.lit (.int .i64 r.1),.sl 107 r.2.1,.lit (.int .i64 r.2.2.1),.lit (.int .i64 r.2.2.2.1),.sl 145 r.2.2.2.2.1,.lit (.int .i64 r.2.2.2.2.2.1),.lit (.int .i64 r.2.2.2.2.2.2)] []
def zOn:LL ty zs6:=za zj (za (lSl 107) (za zj (za zj (za (lSl 145) (za zj (za zj (za (lSl 169) (za zj (za zj zr)))))))))
def zlq (zp:yB->Bool×Int) (n_:Int) (t12:yB) (t13:Int) (t14:Int) (t25:yC) (t26:Int) (t27:Int):Wy zsT Unit zFx:=.i (decide (t27<t26)) (.i (decide (0<=t27)&&decide (t27<Int.ofNat t25.length)) (.bn (zBM zp (n_.toNat +t12.length+t13.toNat +t14.toNat +t25.length+t26.toNat +t27.toNat +(t25.getD t27.toNat default).At.Ag.length+(Int.ofNat (t25.getD t27.toNat default).At.Ag.length).toNat +Int.toNat 0+(t25.getD t27.toNat default).At.Ag.length+(t25.getD t27.toNat default).At.Items.length+1) n_ t12 t13 t14 t25 t26 t27 (t25.getD t27.toNat default).At.Ag (Int.ofNat (t25.getD t27.toNat default).At.Ag.length) 0 (FO.mk (At.mk (t25.getD t27.toNat default).At.Kind (t25.getD t27.toNat default).At.Row (t25.getD t27.toNat default).At.Ag (t25.getD t27.toNat default).At.Func (t25.getD t27.toNat default).At.Items (t25.getD t27.toNat default).At.Op (t25.getD t27.toNat default).At.Bd) (t25.getD t27.toNat default).Exp)) λr5=>.bn (zBV zp (r5.1.toNat +r5.2.1.length+r5.2.2.1.toNat +r5.2.2.2.1.toNat +r5.2.2.2.2.1.length+r5.2.2.2.2.2.1.toNat +r5.2.2.2.2.2.2.1.toNat +r5.2.2.2.2.2.2.2.At.Items.length+(Int.ofNat r5.2.2.2.2.2.2.2.At.Items.length).toNat +Int.toNat 0+1) r5.1 r5.2.1 r5.2.2.1 r5.2.2.2.1 r5.2.2.2.2.1 r5.2.2.2.2.2.1 r5.2.2.2.2.2.2.1 r5.2.2.2.2.2.2.2.At.Items (Int.ofNat r5.2.2.2.2.2.2.2.At.Items.length) 0) λr4=>.h ((r4.1),(r4.2.1),(r4.2.2.1),(r4.2.2.2.1),(r4.2.2.2.2.1),(r4.2.2.2.2.2.1),(IntKind.i64.wrap (r4.2.2.2.2.2.2+1)),()) ()) .d) (.k (n_,t12,t13,t14))
def zvG (zp:yB->Bool×Int) (x:zsT) (y:Unit):=zlq zp x.1 x.2.1 x.2.2.1 x.2.2.2.1 x.2.2.2.2.1 x.2.2.2.2.2.1 x.2.2.2.2.2.2.1
def zDb (zp:yB->Bool×Int) (n:Nat) (n_:Int) (t12:yB) (t13:Int) (t14:Int) (t25:yC) (t26:Int) (t27:Int):=zA (zvG zp) default n (n_,t12,t13,t14,t25,t26,t27,()) ()
def zNR (r:zFx):LTree ty:=.done (.exit 2) [.lit (.int .i64 r.1),.sl 107 r.2.1,.lit (.int .i64 r.2.2.1),.lit (.int .i64 r.2.2.2)] []
def zP4:LL ty zsT:=za zj (za (lSl 107) (za zj (za zj (za (lSl 145) (za zj (za zj zr))))))
def zls (zp:yB->Bool×Int) (n_:Int) (t12:yB) (t13:Int) (t14:Int):Wy zs9 Unit (Int):=.i (decide (t14<t13)) (.i (decide (0<=t14)&&decide (t14<Int.ofNat t12.length)) (.bn (zDb zp ((IntKind.i64.wrap (n_+IntKind.i64.wrap (1+Int.ofNat (t12.getD t14.toNat default).Fs.length))).toNat +t12.length+t13.toNat +t14.toNat +(t12.getD t14.toNat default).Fs.length+(Int.ofNat (t12.getD t14.toNat default).Fs.length).toNat +Int.toNat 0+1) (IntKind.i64.wrap (n_+IntKind.i64.wrap (1+Int.ofNat (t12.getD t14.toNat default).Fs.length))) t12 t13 t14 (t12.getD t14.toNat default).Fs (Int.ofNat (t12.getD t14.toNat default).Fs.length) 0) λr8=>.h ((r8.1),(r8.2.1),(r8.2.2.1),(IntKind.i64.wrap (r8.2.2.2+1)),()) ()) .d) (.k n_)
def zv2 (zp:yB->Bool×Int) (x:zs9) (y:Unit):=zls zp x.1 x.2.1 x.2.2.1 x.2.2.2.1
def zDA (zp:yB->Bool×Int) (n:Nat) (n_:Int) (t12:yB) (t13:Int) (t14:Int):=zA (zv2 zp) default n (n_,t12,t13,t14,()) ()
def zOG (r:Int):LTree ty:=.done (.exit 0) [.lit (.int .i64 r)] []
def zQM:LL ty zs9:=za zj (za (lSl 107) (za zj (za zj zr)))
def zNe (x:ztt) (y:Fc×Unit):Nat:=(Int.toNat x.1+x.2.2.1.length+Int.toNat x.2.2.2.1+Int.toNat x.2.2.2.2.1+x.2.2.2.2.2.1.length+Int.toNat x.2.2.2.2.2.2.1+Int.toNat x.2.2.2.2.2.2.2.1+x.2.2.2.2.2.2.2.2.1.length+Int.toNat x.2.2.2.2.2.2.2.2.2.1+Int.toNat x.2.2.2.2.2.2.2.2.2.2.1+y.1.At.Ag.length+y.1.At.Items.length+1)
def zNp (x:zs6) (y:Unit):Nat:=(Int.toNat x.1+x.2.1.length+Int.toNat x.2.2.1+Int.toNat x.2.2.2.1+x.2.2.2.2.1.length+Int.toNat x.2.2.2.2.2.1+Int.toNat x.2.2.2.2.2.2.1+x.2.2.2.2.2.2.2.1.length+Int.toNat x.2.2.2.2.2.2.2.2.1+Int.toNat x.2.2.2.2.2.2.2.2.2.1+1)
def zNN (x:zsT) (y:Unit):Nat:=(Int.toNat x.1+x.2.1.length+Int.toNat x.2.2.1+Int.toNat x.2.2.2.1+x.2.2.2.2.1.length+Int.toNat x.2.2.2.2.2.1+Int.toNat x.2.2.2.2.2.2.1+1)
def zOZ (x:zs9) (y:Unit):Nat:=(Int.toNat x.1+x.2.1.length+Int.toNat x.2.2.1+Int.toNat x.2.2.2.1+1)
def zlm (zp:yB->Bool×Int):=zc6 base 62 [(160,(zo1 zp))] [] [(3,(kpL [3,12,13,14])),(7,(kpL [3,12,13,14,25,26,27])),(10,(kpL [3,7,12,13,14,25,26,27,33,34,35])),(15,(kpL [3,12,13,14,25,26,27,46,47,48]))] [(3,1,(kpL [3])),(7,3,(kpL [3,12,13,14])),(10,5,(kpL [3,7,12,13,14,25,26,27])),(15,7,(kpL [3,12,13,14,25,26,27]))] [(10,spW zOv zOF (zuM zp) default zM6 zNe),(15,spW zOn z2k (zur zp) default zMS zNp),(7,spW zP4 z2k (zvG zp) default zNR zNN),(3,spW zQM z2k (zv2 zp) default zOG zOZ)] []
theorem zMA (zp:yB->Bool×Int):zS (zlm zp) (lp (body f160) 2):=zI (id:=10) (hl:=rfl)
theorem zML (zp:yB->Bool×Int):zS (zlm zp) (lp (body f160) 3):=zI (id:=15) (hl:=rfl)
theorem zNP (zp:yB->Bool×Int):zS (zlm zp) (lp (body f160) 1):=zI (id:=7) (hl:=rfl)
theorem zOD (zp:yB->Bool×Int):zS (zlm zp) (lp (body f160) 0):=zI (id:=3) (hl:=rfl)
def zEd (zp:yB->Bool×Int) (a:yB):Wy0 (Int):=.bn (zDA zp (Int.toNat 0+a.length+(Int.ofNat a.length).toNat +Int.toNat 0+1) 0 a (Int.ofNat a.length) 0) λr10=>.k r10
def zuf (zp:yB->Bool×Int) (a:yB):=(zEd zp a).fin default
theorem zLn (zp:yB->Bool×Int) (zSk:SdP 160 (zo1 zp)):SdP 160 (zo1 (zuf zp)):=
 sT (cx':=(zlm zp)) (zm ⟨zSk,trivial⟩) call160 func160 (lOK (aC (zOD zp) (aC (zNP zp) (aC (zMA zp) (aC (zML zp) aN)))))
def z2N:Nat->(yB->Bool×Int)
 | 0=>λ_=>(false,default)
 | n+1=>zuf (z2N n)
def zlL (n:Nat):yB->Bool×Int:=z2N n
theorem zPy (n:Nat):zlL (n+1)=zuf (zlL n):=rfl
theorem zZa:∀ n,SdP 160 (zo1 (zlL n))
 | 0=>zbQ call160 (λ_=>rfl)
 | n+1=>by
  have ih:=zZa n;exact zLn _ (ih)
def zDf:yB->Bool×Int:=zlL 1000
def zCW:Ab.Spec ty:=zo1 zDf
theorem zO5:SdP 160 zCW:=(zZa 1000)
abbrev znX:=Int×Unit×Int×yB×Int×Int×yC×Int×Int×yA×Int×Int×Unit
abbrev zBT:=Int×Int×yB×Int×Int×yC×Int×Int×Fc
abbrev zog:=Int×Int×yB×Int×Int×yC×Int×Int×yD×Int×Int×Unit
abbrev zBP:=Int×Int×yB×Int×Int×yC×Int×Int
abbrev zn1:=Int×yB×Int×Int×yC×Int×Int×Unit
abbrev zCg:=Int×yB×Int×Int
abbrev zn4:=Int×yB×Int×Int×Unit
def ziF (zk:yB->Bool×Int) (n_:Int) (inner:Int) (t13:yB) (t14:Int) (t15:Int) (t20:yC) (t21:Int) (t22:Int) (t32:yA) (t33:Int) (t34:Int) (f:Fc):Wy znX (Fc×Unit) zBT:=.i (decide (t34<t33)) (.i (decide (0<=t34)&&decide (t34<Int.ofNat t32.length)) (.bn (zk (t32.getD t34.toNat default)) λr0=>.h (n_,(),(if r0>inner then r0 else inner),t13,t14,t15,t20,t21,t22,t32,t33,(IntKind.i64.wrap (t34+1)),()) (f,())) .d) (.k (n_,inner,t13,t14,t15,t20,t21,t22,f))
def zru (zk:yB->Bool×Int) (x:znX) (y:Fc×Unit):=ziF zk x.1 x.2.2.1 x.2.2.2.1 x.2.2.2.2.1 x.2.2.2.2.2.1 x.2.2.2.2.2.2.1 x.2.2.2.2.2.2.2.1 x.2.2.2.2.2.2.2.2.1 x.2.2.2.2.2.2.2.2.2.1 x.2.2.2.2.2.2.2.2.2.2.1 x.2.2.2.2.2.2.2.2.2.2.2.1 y.1
def zzh (zk:yB->Bool×Int) (n:Nat) (n_:Int) (inner:Int) (t13:yB) (t14:Int) (t15:Int) (t20:yC) (t21:Int) (t22:Int) (t32:yA) (t33:Int) (t34:Int) (f:Fc):=zA (zru zk) default n (n_,(),inner,t13,t14,t15,t20,t21,t22,t32,t33,t34,()) (f,())
def zHY (r:zBT):LTree ty:=.done (.exit 4) [.lit (.int .i64 r.1),.ptr 256 0,.lit (.int .i64 r.2.1),.sl 107 r.2.2.1,.lit (.int .i64 r.2.2.2.1),.lit (.int .i64 r.2.2.2.2.1),.sl 145 r.2.2.2.2.2.1,.lit (.int .i64 r.2.2.2.2.2.2.1),.lit (.int .i64 r.2.2.2.2.2.2.2.1)] [.box (base.enc 145 r.2.2.2.2.2.2.2.2) false]
def zKw:LL ty znX:=za zj (za (zfi 256 0) (za zj (za (lSl 107) (za zj (za zj (za (lSl 145) (za zj (za zj (za (lSl 51) (za zj (za zj zr)))))))))))
def ziH (zk:yB->Bool×Int) (n_:Int) (inner:Int) (t13:yB) (t14:Int) (t15:Int) (t20:yC) (t21:Int) (t22:Int) (t45:yD) (t46:Int) (t47:Int):Wy zog Unit zBP:=.i (decide (t47<t46)) (.i (decide (0<=t47)&&decide (t47<Int.ofNat t45.length)) (.bn (zk (t45.getD t47.toNat default).Ann) λr2=>.h (n_,(if r2>inner then r2 else inner),t13,t14,t15,t20,t21,t22,t45,t46,(IntKind.i64.wrap (t47+1)),()) ()) .d) (.k (n_,inner,t13,t14,t15,t20,t21,t22))
def zq8 (zk:yB->Bool×Int) (x:zog) (y:Unit):=ziH zk x.1 x.2.1 x.2.2.1 x.2.2.2.1 x.2.2.2.2.1 x.2.2.2.2.2.1 x.2.2.2.2.2.2.1 x.2.2.2.2.2.2.2.1 x.2.2.2.2.2.2.2.2.1 x.2.2.2.2.2.2.2.2.2.1 x.2.2.2.2.2.2.2.2.2.2.1
def zyM (zk:yB->Bool×Int) (n:Nat) (n_:Int) (inner:Int) (t13:yB) (t14:Int) (t15:Int) (t20:yC) (t21:Int) (t22:Int) (t45:yD) (t46:Int) (t47:Int):=zA (zq8 zk) default n (n_,inner,t13,t14,t15,t20,t21,t22,t45,t46,t47,()) ()
def zIK (r:zBP):LTree ty:=.done (.exit 6) [.lit (.int .i64 r.1),.lit (.int .i64 r.2.1),.sl 107 r.2.2.1,.lit (.int .i64 r.2.2.2.1),.lit (.int .i64 r.2.2.2.2.1),.sl 145 r.2.2.2.2.2.1,.lit (.int .i64 r.2.2.2.2.2.2.1),.lit (.int .i64 r.2.2.2.2.2.2.2)] []
def zJf:LL ty zog:=za zj (za zj (za (lSl 107) (za zj (za zj (za (lSl 145) (za zj (za zj (za (lSl 169) (za zj (za zj zr))))))))))
def zjm (zk:yB->Bool×Int) (n_:Int) (t13:yB) (t14:Int) (t15:Int) (t20:yC) (t21:Int) (t22:Int):Wy zn1 Unit zCg:=.i (decide (t22<t21)) (.i (decide (0<=t22)&&decide (t22<Int.ofNat t20.length)) (.i ((t20.getD t22.toNat default).At.Kind==0) (.h (n_,t13,t14,t15,t20,t21,(IntKind.i64.wrap (t22+1)),()) ()) (.bn (zzh zk (n_.toNat +Int.toNat 0+t13.length+t14.toNat +t15.toNat +t20.length+t21.toNat +t22.toNat +(t20.getD t22.toNat default).At.Ag.length+(Int.ofNat (t20.getD t22.toNat default).At.Ag.length).toNat +Int.toNat 0+(t20.getD t22.toNat default).At.Ag.length+(t20.getD t22.toNat default).At.Items.length+1) n_ 0 t13 t14 t15 t20 t21 t22 (t20.getD t22.toNat default).At.Ag (Int.ofNat (t20.getD t22.toNat default).At.Ag.length) 0 (FO.mk (At.mk (t20.getD t22.toNat default).At.Kind (t20.getD t22.toNat default).At.Row (t20.getD t22.toNat default).At.Ag (t20.getD t22.toNat default).At.Func (t20.getD t22.toNat default).At.Items (t20.getD t22.toNat default).At.Op (t20.getD t22.toNat default).At.Bd) (t20.getD t22.toNat default).Exp)) λr5=>.bn (zyM zk (r5.1.toNat +r5.2.1.toNat +r5.2.2.1.length+r5.2.2.2.1.toNat +r5.2.2.2.2.1.toNat +r5.2.2.2.2.2.1.length+r5.2.2.2.2.2.2.1.toNat +r5.2.2.2.2.2.2.2.1.toNat +r5.2.2.2.2.2.2.2.2.At.Items.length+(Int.ofNat r5.2.2.2.2.2.2.2.2.At.Items.length).toNat +Int.toNat 0+1) r5.1 r5.2.1 r5.2.2.1 r5.2.2.2.1 r5.2.2.2.2.1 r5.2.2.2.2.2.1 r5.2.2.2.2.2.2.1 r5.2.2.2.2.2.2.2.1 r5.2.2.2.2.2.2.2.2.At.Items (Int.ofNat r5.2.2.2.2.2.2.2.2.At.Items.length) 0) λr4=>.h ((if IntKind.i64.wrap (1+r4.2.1)>r4.1 then IntKind.i64.wrap (1+r4.2.1) else r4.1),(r4.2.2.1),(r4.2.2.2.1),(r4.2.2.2.2.1),(r4.2.2.2.2.2.1),(r4.2.2.2.2.2.2.1),(IntKind.i64.wrap (r4.2.2.2.2.2.2.2+1)),()) ())) .d) (.k (n_,t13,t14,t15))
def zsu (zk:yB->Bool×Int) (x:zn1) (y:Unit):=zjm zk x.1 x.2.1 x.2.2.1 x.2.2.2.1 x.2.2.2.2.1 x.2.2.2.2.2.1 x.2.2.2.2.2.2.1
def zzY (zk:yB->Bool×Int) (n:Nat) (n_:Int) (t13:yB) (t14:Int) (t15:Int) (t20:yC) (t21:Int) (t22:Int):=zA (zsu zk) default n (n_,t13,t14,t15,t20,t21,t22,()) ()
def zI3 (r:zCg):LTree ty:=.done (.exit 2) [.lit (.int .i64 r.1),.sl 107 r.2.1,.lit (.int .i64 r.2.2.1),.lit (.int .i64 r.2.2.2)] []
def zK2:LL ty zn1:=za zj (za (lSl 107) (za zj (za zj (za (lSl 145) (za zj (za zj zr))))))
def zjo (zk:yB->Bool×Int) (n_:Int) (t13:yB) (t14:Int) (t15:Int):Wy zn4 Unit (Int):=.i (decide (t15<t14)) (.i (decide (0<=t15)&&decide (t15<Int.ofNat t13.length)) (.bn (zzY zk (n_.toNat +t13.length+t14.toNat +t15.toNat +(t13.getD t15.toNat default).Fs.length+(Int.ofNat (t13.getD t15.toNat default).Fs.length).toNat +Int.toNat 0+1) n_ t13 t14 t15 (t13.getD t15.toNat default).Fs (Int.ofNat (t13.getD t15.toNat default).Fs.length) 0) λr8=>.h ((r8.1),(r8.2.1),(r8.2.2.1),(IntKind.i64.wrap (r8.2.2.2+1)),()) ()) .d) (.k n_)
def zsl (zk:yB->Bool×Int) (x:zn4) (y:Unit):=zjo zk x.1 x.2.1 x.2.2.1 x.2.2.2.1
def zz1 (zk:yB->Bool×Int) (n:Nat) (n_:Int) (t13:yB) (t14:Int) (t15:Int):=zA (zsl zk) default n (n_,t13,t14,t15,()) ()
def zLw:LL ty zn4:=za zj (za (lSl 107) (za zj (za zj zr)))
def zId (x:znX) (y:Fc×Unit):Nat:=(Int.toNat x.1+Int.toNat x.2.2.1+x.2.2.2.1.length+Int.toNat x.2.2.2.2.1+Int.toNat x.2.2.2.2.2.1+x.2.2.2.2.2.2.1.length+Int.toNat x.2.2.2.2.2.2.2.1+Int.toNat x.2.2.2.2.2.2.2.2.1+x.2.2.2.2.2.2.2.2.2.1.length+Int.toNat x.2.2.2.2.2.2.2.2.2.2.1+Int.toNat x.2.2.2.2.2.2.2.2.2.2.2.1+y.1.At.Ag.length+y.1.At.Items.length+1)
def zIC (x:zog) (y:Unit):Nat:=(Int.toNat x.1+Int.toNat x.2.1+x.2.2.1.length+Int.toNat x.2.2.2.1+Int.toNat x.2.2.2.2.1+x.2.2.2.2.2.1.length+Int.toNat x.2.2.2.2.2.2.1+Int.toNat x.2.2.2.2.2.2.2.1+x.2.2.2.2.2.2.2.2.1.length+Int.toNat x.2.2.2.2.2.2.2.2.2.1+Int.toNat x.2.2.2.2.2.2.2.2.2.2.1+1)
def zJo (x:zn1) (y:Unit):Nat:=(Int.toNat x.1+x.2.1.length+Int.toNat x.2.2.1+Int.toNat x.2.2.2.1+x.2.2.2.2.1.length+Int.toNat x.2.2.2.2.2.1+Int.toNat x.2.2.2.2.2.2.1+1)
def zJe (x:zn4) (y:Unit):Nat:=(Int.toNat x.1+x.2.1.length+Int.toNat x.2.2.1+Int.toNat x.2.2.2.1+1)
def zjt (zk:yB->Bool×Int):=zc6 base 64 [(159,(zo1 zk))] [] [(3,(kpL [3,13,14,15])),(6,(kpL [3,13,14,15,20,21,22])),(11,(kpL [3,7,8,13,14,15,20,21,22,32,33,34])),(16,(kpL [3,8,13,14,15,20,21,22,45,46,47]))] [(3,1,(kpL [3])),(6,3,(kpL [3,13,14,15])),(11,5,(kpL [3,7,8,13,14,15,20,21,22])),(16,7,(kpL [3,8,13,14,15,20,21,22]))] [(11,spW zKw zOF (zru zk) default zHY zId),(16,spW zJf z2k (zq8 zk) default zIK zIC),(6,spW zK2 z2k (zsu zk) default zI3 zJo),(3,spW zLw z2k (zsl zk) default zOG zJe)] []
theorem zH4 (zk:yB->Bool×Int):zS (zjt zk) (lp (body f159) 2):=zI (id:=11) (hl:=rfl)
theorem zIn (zk:yB->Bool×Int):zS (zjt zk) (lp (body f159) 3):=zI (id:=16) (hl:=rfl)
theorem zKd (zk:yB->Bool×Int):zS (zjt zk) (lp (body f159) 1):=zI (id:=6) (hl:=rfl)
theorem zJE (zk:yB->Bool×Int):zS (zjt zk) (lp (body f159) 0):=zI (id:=3) (hl:=rfl)
def zAI (zk:yB->Bool×Int) (a:yB):Wy0 (Int):=.bn (zz1 zk (Int.toNat 0+a.length+(Int.ofNat a.length).toNat +Int.toNat 0+1) 0 a (Int.ofNat a.length) 0) λr10=>.k r10
def zpB (zk:yB->Bool×Int) (a:yB):=(zAI zk a).fin default
theorem zGQ (zk:yB->Bool×Int) (zMw:SdP 159 (zo1 zk)):SdP 159 (zo1 (zpB zk)):=
 sT (cx':=(zjt zk)) (zm ⟨zMw,trivial⟩) call159 func159 (lOK (aC (zJE zk) (aC (zKd zk) (aC (zH4 zk) (aC (zIn zk) aN)))))
def zV2:Nat->(yB->Bool×Int)
 | 0=>λ_=>(false,default)
 | n+1=>zpB (zV2 n)
def zgG (n:Nat):yB->Bool×Int:=zV2 n
theorem zK1 (n:Nat):zgG (n+1)=zpB (zgG n):=rfl
theorem zRh:∀ n,SdP 159 (zo1 (zgG n))
 | 0=>zbQ call159 (λ_=>rfl)
 | n+1=>by
  have ih:=zRh n;exact zGQ _ (ih)
def zyQ:yB->Bool×Int:=zgG 1000
def zzS:Ab.Spec ty:=zo1 zyQ
theorem zJ4:SdP 159 zzS:=(zRh 1000)
def zHs:=zbN base 13 []
def zxH (f:Fc):Wy0 (Bool):=.i (decide (f.Exp>64)) (.k true) (.k (decide (Int.ofNat f.At.Items.length>1024)))
def zgq (f:Fc):=(zxH f).fin default
def zIE:AL base (Fc×Unit):=zg (zh (zda 145)) zC
def zi8:=zi zIE λx=>((zgq x.1).1,zSj (zgq x.1).2)
theorem zlU:SdP 164 zi8:=
 sT (cx':=zHs) (zm trivial) call164 func164 (lOK aN)
abbrev zer:=yC×Unit×Int×Int×Unit
def zjX (s:yC) (t7:Int) (t8:Int):Wy zer Unit (Int⊕Unit):=.i (decide (t8<t7)) (.i (decide (0<=t8)&&decide (t8<Int.ofNat s.length)) (.bn (zgq (FO.mk (At.mk (s.getD t8.toNat default).At.Kind (s.getD t8.toNat default).At.Row (s.getD t8.toNat default).At.Ag (s.getD t8.toNat default).At.Func (s.getD t8.toNat default).At.Items (s.getD t8.toNat default).At.Op (s.getD t8.toNat default).At.Bd) (s.getD t8.toNat default).Exp)) λr0=>.i (r0) (.k (.inl t8)) (.h (s,(),t7,(IntKind.i64.wrap (t8+1)),()) ())) .d) (.k (.inr ()))
def zdy (x:zer) (y:Unit):=zjX x.1 x.2.2.1 x.2.2.2.1
def zjW (n:Nat) (s:yC) (t7:Int) (t8:Int):=zA (zdy) (.inl default) n (s,(),t7,t8,()) ()
def zsy (r:Int⊕Unit):LTree ty:=.ite (isL r) (.done .ret [.lit (.int .i64 (getL r))] []) (.done (.exit 0) [] [])
def zsU:LL ty zer:=za (lSl 145) (za (lFn 164 (zr)) (za zj (za zj zr)))
def zsH (x:zer) (y:Unit):Nat:=(x.1.length+Int.toNat x.2.2.1+Int.toNat x.2.2.2.1+1)
def zjL:=zc6 base 19 [(164,zi8)] [] [(2,(kpL [0,1,7,8]))] [(2,1,[]),(2,0,(kpL [4]))] [(2,spW zsU z2k (zdy) (.inl default) zsy zsH)] []
theorem zsp:zS zjL (lp (body f222) 0):=zI (id:=2) (hl:=rfl)
def zj5 (s:yC):Wy0 (Int):=.bn (zjW (s.length+(Int.ofNat s.length).toNat +Int.toNat 0+1) s (Int.ofNat s.length) 0) λr2=>.i (isL r2) (.k (getL r2)) (.k (-1:Int))
def zcP (s:yC):=(zj5 s).fin default
def zt0:AL base (yC×Unit×Unit):=zg (zh (vSl 145)) (zg (zh (vFn 164 zcX)) zC)
def zi2:=zi zt0 λx=>((zcP x.1).1,zNi (zcP x.1).2)
theorem zrf:SdP 222 zi2:=
 sT (cx':=zjL) (zm ⟨zlU,trivial⟩) call222 func222 (lOK (aC zsp aN))
def zrh:=zbN base 9 [(164,zi8),(222,zi2)]
def zi4 (s:yC):Wy0 (Bool):=.bn (zcP s) λr0=>.k (decide (r0≥0))
def zct (s:yC):=(zi4 s).fin default
def zhR:=zi zt0 λx=>((zct x.1).1,zSj (zct x.1).2)
theorem zps:SdP 163 zhR:=
 sT (cx':=zrh) (zm ⟨zlU,zrf,trivial⟩) call163 func163 (lOK aN)
def zLh:=zbN base 12 [(163,zhR),(164,zi8)]
def zAN (t:Term):Wy0 (Bool):=.i (decide (Int.ofNat t.Fs.length>64)) (.k true) (.bn (zct t.Fs) λr0=>.k r0)
def zld (t:Term):=(zAN t).fin default
def zM3:AL base (Term×Unit):=zg (zh (zda 107)) zC
def zkR:=zi zM3 λx=>((zld x.1).1,zSj (zld x.1).2)
theorem zoy:SdP 162 zkR:=
 sT (cx':=zLh) (zm ⟨zps,zlU,trivial⟩) call162 func162 (lOK aN)
abbrev zeh:=yB×Unit×Int×Int×Unit
def zso (s:yB) (t7:Int) (t8:Int):Wy zeh Unit (Int⊕Unit):=.i (decide (t8<t7)) (.i (decide (0<=t8)&&decide (t8<Int.ofNat s.length)) (.bn (zld (s.getD t8.toNat default)) λr0=>.i (r0) (.k (.inl t8)) (.h (s,(),t7,(IntKind.i64.wrap (t8+1)),()) ())) .d) (.k (.inr ()))
def zjr (x:zeh) (y:Unit):=zso x.1 x.2.2.1 x.2.2.2.1
def zsh (n:Nat) (s:yB) (t7:Int) (t8:Int):=zA (zjr) (.inl default) n (s,(),t7,t8,()) ()
def zsE:LL ty zeh:=za (lSl 107) (za (lFn 162 (zr)) (za zj (za zj zr)))
def zrX (x:zeh) (y:Unit):Nat:=(x.1.length+Int.toNat x.2.2.1+Int.toNat x.2.2.2.1+1)
def zjB:=zc6 base 19 [(162,zkR)] [] [(2,(kpL [0,1,7,8]))] [(2,1,[]),(2,0,(kpL [4]))] [(2,spW zsE z2k (zjr) (.inl default) zsy zrX)] []
theorem zr2:zS zjB (lp (body f221) 0):=zI (id:=2) (hl:=rfl)
def ztI (s:yB):Wy0 (Int):=.bn (zsh (s.length+(Int.ofNat s.length).toNat +Int.toNat 0+1) s (Int.ofNat s.length) 0) λr2=>.i (isL r2) (.k (getL r2)) (.k (-1:Int))
def zdV (s:yB):=(ztI s).fin default
def ztq:AL base (yB×Unit×Unit):=zg (zh (vSl 107)) (zg (zh (vFn 162 zcX)) zC)
def ziJ:=zi ztq λx=>((zdV x.1).1,zNi (zdV x.1).2)
theorem zqB:SdP 221 ziJ:=
 sT (cx':=zjB) (zm ⟨zoy,trivial⟩) call221 func221 (lOK (aC zr2 aN))
def zqD:=zbN base 9 [(162,zkR),(221,ziJ)]
def ziB (s:yB):Wy0 (Bool):=.bn (zdV s) λr0=>.k (decide (r0≥0))
def zcm (s:yB):=(ziB s).fin default
def zhq:=zi ztq λx=>((zcm x.1).1,zSj (zcm x.1).2)
theorem zoD:SdP 161 zhq:=
 sT (cx':=zqD) (zm ⟨zoy,zqB,trivial⟩) call161 func161 (lOK aN)
def zPJ:=zbN base 19 [(159,zzS),(160,zCW),(161,zhq),(162,zkR)]
def zD0 (a:yB):Wy0 (Bool):=.i (decide (Int.ofNat a.length>512)) (.k false) (.bn (zyQ a) λr2=>.i (decide (r2>8)) (.k false) (.bn (zDf a) λr1=>.i (decide (r1>4096)) (.k false) (.bn (zcm a) λr0=>.k (!r0))))
def zlM (a:yB):=(zD0 a).fin default
def ztY:=zi zT6 λx=>((zlM x.1).1,zSj (zlM x.1).2)
theorem zzO:SdP 103 ztY:=
 sT (cx':=zPJ) (zm ⟨zJ4,zO5,zoD,zoy,trivial⟩) call103 func103 (lOK aN)
abbrev zrK:=yB×Unit×yB×Int×Int×yC×Int×Int×Unit
abbrev zDY:=Bool⊕(yB×yB×Int×Int)
abbrev zrL:=yB×yB×Int×Int×Unit
def zkA (zx:At->Bool×Bool) (a:yB) (t10:yB) (t11:Int) (t12:Int) (t40:yC) (t41:Int) (t42:Int) (t:Term):Wy zrK (Term×Unit) zDY:=.i (decide (t42<t41)) (.i (decide (0<=t42)&&decide (t42<Int.ofNat t40.length)) (.i (decide ((t40.getD t42.toNat default).Exp<1)) (.k (.inl false)) (.bn (zfS (At.mk (t40.getD t42.toNat default).At.Kind (t40.getD t42.toNat default).At.Row (t40.getD t42.toNat default).At.Ag (t40.getD t42.toNat default).At.Func (t40.getD t42.toNat default).At.Items (t40.getD t42.toNat default).At.Op (t40.getD t42.toNat default).At.Bd)) λr6=>.i (r6) (.i ((t40.getD t42.toNat default).Exp != 1) (.k (.inl false)) (.i (decide (t42>0)) (.i (decide (0<=IntKind.i64.wrap (t42 - 1))&&decide (IntKind.i64.wrap (t42 - 1)<Int.ofNat t.Fs.length)) (.bn (zjy (At.mk (t.Fs.getD (IntKind.i64.wrap (t42 - 1)).toNat default).At.Kind (t.Fs.getD (IntKind.i64.wrap (t42 - 1)).toNat default).At.Row (t.Fs.getD (IntKind.i64.wrap (t42 - 1)).toNat default).At.Ag (t.Fs.getD (IntKind.i64.wrap (t42 - 1)).toNat default).At.Func (t.Fs.getD (IntKind.i64.wrap (t42 - 1)).toNat default).At.Items (t.Fs.getD (IntKind.i64.wrap (t42 - 1)).toNat default).At.Op (t.Fs.getD (IntKind.i64.wrap (t42 - 1)).toNat default).At.Bd) (At.mk (t40.getD t42.toNat default).At.Kind (t40.getD t42.toNat default).At.Row (t40.getD t42.toNat default).At.Ag (t40.getD t42.toNat default).At.Func (t40.getD t42.toNat default).At.Items (t40.getD t42.toNat default).At.Op (t40.getD t42.toNat default).At.Bd)) λr1=>.i (decide (r1≥0)) (.k (.inl false)) (.bn (zx (At.mk (t40.getD t42.toNat default).At.Kind (t40.getD t42.toNat default).At.Row (t40.getD t42.toNat default).At.Ag (t40.getD t42.toNat default).At.Func (t40.getD t42.toNat default).At.Items (t40.getD t42.toNat default).At.Op (t40.getD t42.toNat default).At.Bd)) λr0=>.i (!r0) (.k (.inl false)) (.h (a,(),t10,t11,t12,t40,t41,(IntKind.i64.wrap (t42+1)),()) (t,())))) .d) (.bn (zx (At.mk (t40.getD t42.toNat default).At.Kind (t40.getD t42.toNat default).At.Row (t40.getD t42.toNat default).At.Ag (t40.getD t42.toNat default).At.Func (t40.getD t42.toNat default).At.Items (t40.getD t42.toNat default).At.Op (t40.getD t42.toNat default).At.Bd)) λr2=>.i (!r2) (.k (.inl false)) (.h (a,(),t10,t11,t12,t40,t41,(IntKind.i64.wrap (t42+1)),()) (t,()))))) (.i (decide (t42>0)) (.i (decide (0<=IntKind.i64.wrap (t42 - 1))&&decide (IntKind.i64.wrap (t42 - 1)<Int.ofNat t.Fs.length)) (.bn (zjy (At.mk (t.Fs.getD (IntKind.i64.wrap (t42 - 1)).toNat default).At.Kind (t.Fs.getD (IntKind.i64.wrap (t42 - 1)).toNat default).At.Row (t.Fs.getD (IntKind.i64.wrap (t42 - 1)).toNat default).At.Ag (t.Fs.getD (IntKind.i64.wrap (t42 - 1)).toNat default).At.Func (t.Fs.getD (IntKind.i64.wrap (t42 - 1)).toNat default).At.Items (t.Fs.getD (IntKind.i64.wrap (t42 - 1)).toNat default).At.Op (t.Fs.getD (IntKind.i64.wrap (t42 - 1)).toNat default).At.Bd) (At.mk (t40.getD t42.toNat default).At.Kind (t40.getD t42.toNat default).At.Row (t40.getD t42.toNat default).At.Ag (t40.getD t42.toNat default).At.Func (t40.getD t42.toNat default).At.Items (t40.getD t42.toNat default).At.Op (t40.getD t42.toNat default).At.Bd)) λr4=>.i (decide (r4≥0)) (.k (.inl false)) (.bn (zx (At.mk (t40.getD t42.toNat default).At.Kind (t40.getD t42.toNat default).At.Row (t40.getD t42.toNat default).At.Ag (t40.getD t42.toNat default).At.Func (t40.getD t42.toNat default).At.Items (t40.getD t42.toNat default).At.Op (t40.getD t42.toNat default).At.Bd)) λr3=>.i (!r3) (.k (.inl false)) (.h (a,(),t10,t11,t12,t40,t41,(IntKind.i64.wrap (t42+1)),()) (t,())))) .d) (.bn (zx (At.mk (t40.getD t42.toNat default).At.Kind (t40.getD t42.toNat default).At.Row (t40.getD t42.toNat default).At.Ag (t40.getD t42.toNat default).At.Func (t40.getD t42.toNat default).At.Items (t40.getD t42.toNat default).At.Op (t40.getD t42.toNat default).At.Bd)) λr5=>.i (!r5) (.k (.inl false)) (.h (a,(),t10,t11,t12,t40,t41,(IntKind.i64.wrap (t42+1)),()) (t,())))))) .d) (.k (.inr (a,t10,t11,t12)))
def zuK (zx:At->Bool×Bool) (x:zrK) (y:Term×Unit):=zkA zx x.1 x.2.2.1 x.2.2.2.1 x.2.2.2.2.1 x.2.2.2.2.2.1 x.2.2.2.2.2.2.1 x.2.2.2.2.2.2.2.1 y.1
def zuy (zx:At->Bool×Bool) (n:Nat) (a:yB) (t10:yB) (t11:Int) (t12:Int) (t40:yC) (t41:Int) (t42:Int) (t:Term):=zA (zuK zx) (.inl default) n (a,(),t10,t11,t12,t40,t41,t42,()) (t,())
def zMF (r:zDY):LTree ty:=.ite (isL r) (.done .ret [.lit (.bool (getL r))] []) (.done (.exit 2) [.sl 107 (getR r).1,.sl 107 (getR r).2.1,.lit (.int .i64 (getR r).2.2.1),.lit (.int .i64 (getR r).2.2.2)] [])
def zNv:LL ty zrK:=za (lSl 107) (za (zfi 340 0) (za (lSl 107) (za zj (za zj (za (lSl 145) (za zj (za zj zr)))))))
def zOE:BL ty (Term×Unit):=ziu (zg7 (λx=>(⟨x.1,x.2.1⟩:Term)) (λx=>(x.Cf,x.Fs,())) (λ_=>rfl) (za (zbL .i64) (za (lSl 145) zr))) false (zbD)
def zkL (zx:At->Bool×Bool) (a:yB) (t10:yB) (t11:Int) (t12:Int):Wy zrL Unit (Bool⊕Unit):=.i (decide (t12<t11)) (.i (decide (0<=t12)&&decide (t12<Int.ofNat t10.length)) (.i (decide ((t10.getD t12.toNat default).Cf<1)) (.k (.inl false)) (.i (decide ((t10.getD t12.toNat default).Cf>1152921504606846976)) (.k (.inl false)) (.i (decide (t12>0)) (.i (decide (0<=IntKind.i64.wrap (t12 - 1))&&decide (IntKind.i64.wrap (t12 - 1)<Int.ofNat a.length)) (.bn (zbU (a.getD (IntKind.i64.wrap (t12 - 1)).toNat default) (t10.getD t12.toNat default)) λr15=>.i (decide (r15≥0)) (.k (.inl false)) (.bn (zuy zx (a.length+t10.length+t11.toNat +t12.toNat +(t10.getD t12.toNat default).Fs.length+(Int.ofNat (t10.getD t12.toNat default).Fs.length).toNat +Int.toNat 0+(t10.getD t12.toNat default).Fs.length+1) a t10 t11 t12 (t10.getD t12.toNat default).Fs (Int.ofNat (t10.getD t12.toNat default).Fs.length) 0 (t10.getD t12.toNat default)) λr14=>.i (isL r14) (.k (.inl (getL r14))) (.h ((getR r14).1,(getR r14).2.1,(getR r14).2.2.1,(IntKind.i64.wrap ((getR r14).2.2.2+1)),()) ()))) .d) (.bn (zuy zx (a.length+t10.length+t11.toNat +t12.toNat +(t10.getD t12.toNat default).Fs.length+(Int.ofNat (t10.getD t12.toNat default).Fs.length).toNat +Int.toNat 0+(t10.getD t12.toNat default).Fs.length+1) a t10 t11 t12 (t10.getD t12.toNat default).Fs (Int.ofNat (t10.getD t12.toNat default).Fs.length) 0 (t10.getD t12.toNat default)) λr16=>.i (isL r16) (.k (.inl (getL r16))) (.h ((getR r16).1,(getR r16).2.1,(getR r16).2.2.1,(IntKind.i64.wrap ((getR r16).2.2.2+1)),()) ()))))) .d) (.k (.inr ()))
def zu4 (zx:At->Bool×Bool) (x:zrL) (y:Unit):=zkL zx x.1 x.2.1 x.2.2.1 x.2.2.2.1
def zCh (zx:At->Bool×Bool) (n:Nat) (a:yB) (t10:yB) (t11:Int) (t12:Int):=zA (zu4 zx) (.inl default) n (a,t10,t11,t12,()) ()
def zNz:LL ty zrL:=za (lSl 107) (za (lSl 107) (za zj (za zj zr)))
def zNn (x:zrK) (y:Term×Unit):Nat:=(x.1.length+x.2.2.1.length+Int.toNat x.2.2.2.1+Int.toNat x.2.2.2.2.1+x.2.2.2.2.2.1.length+Int.toNat x.2.2.2.2.2.2.1+Int.toNat x.2.2.2.2.2.2.2.1+y.1.Fs.length+1)
def zMW (x:zrL) (y:Unit):Nat:=(x.1.length+x.2.1.length+Int.toNat x.2.2.1+Int.toNat x.2.2.2.1+1)
def zus (zx:At->Bool×Bool):=zc6 base 85 [(103,ztY),(104,zi5),(105,zkk),(106,zmC),(107,(zmS zx))] [] [(4,(kpL [0,10,11,12])),(9,(kpL [0,4,10,11,12,40,41,42]))] [(4,1,[]),(4,0,(kpL [2])),(9,3,(kpL [0,10,11,12])),(9,0,(kpL [2]))] [(9,spW zNv zOE (zuK zx) (.inl default) zMF zNn),(4,spW zNz z2k (zu4 zx) (.inl default) znr zMW)] []
theorem zMR (zx:At->Bool×Bool):zS (zus zx) (lp (body f52) 1):=zI (id:=9) (hl:=rfl)
theorem zMi (zx:At->Bool×Bool):zS (zus zx) (lp (body f52) 0):=zI (id:=4) (hl:=rfl)
def zDj (zx:At->Bool×Bool) (a:yB):Wy0 (Bool):=.bn (zlM a) λr21=>.i (!r21) (.k false) (.bn (zCh zx (a.length+a.length+(Int.ofNat a.length).toNat +Int.toNat 0+1) a a (Int.ofNat a.length) 0) λr20=>.i (isL r20) (.k (getL r20)) (.k true))
def znC (zx:At->Bool×Bool) (a:yB):=(zDj zx a).fin default
theorem zJu (zx:At->Bool×Bool) (zKo:SdP 107 (zmS zx)):SdP 52 (ziP (znC zx)):=
 sT (cx':=(zus zx)) (zm ⟨zzO,zlY,znm,zub,zKo,trivial⟩) call52 func52 (lOK (aC (zMi zx) (aC (zMR zx) aN)))
def z0p:=zbN base 36 []
def zRi (v:Value):Wy0 (Bool):=.i (v.Kind==0) (.k (v.Text.toList==(ByteArray.mk #[]).toList)) (.i (v.Kind==1) (.i (v.Int==0) (.k (decide (Int.ofNat v.Text.size<=255))) (.k false)) (.i (v.Kind==2) (.i (v.Int==0) (.k (v.Text.toList==(ByteArray.mk #[]).toList)) (.i (v.Int==1) (.k (v.Text.toList==(ByteArray.mk #[]).toList)) (.k false))) (.k false)))
def zqn (v:Value):=(zRi v).fin default
def z12:AL base (Value×Unit):=zg (zh (zda 79)) zC
def zqZ:=zi z12 λx=>((zqn x.1).1,zSj (zqn x.1).2)
theorem zuk:SdP 91 zqZ:=
 sT (cx':=z0p) (zm trivial) call91 func91 (lOK aN)
def zJM:=zbN base 27 [(91,zqZ)]
def zz0 (w:Wd) (p1:Value) (p2:Int):Wy0 (Bool):=.bn (zqn w.Value) λr0=>.i (!r0) (.k true) (.i (w.Value.Kind != p1.Kind) (.k true) (.i (p2==0) (.k (w.Value.Int != 1)) (.k false)))
def zie (w:Wd) (p1:Value) (p2:Int):=(zz0 w p1 p2).fin default
def zKO:AL base (Wd×Value×(Int×Unit)×Unit):=zg (zh (zda 169)) (zg (zh (zYX 79)) (zg (zh (zZY (zzF zhY zcX))) zC))
def zko:=zi zKO λx=>((zie x.1 x.2.1 x.2.2.1.1).1,zSj (zie x.1 x.2.1 x.2.2.1.1).2)
theorem zno:SdP 229 zko:=
 sT (cx':=zJM) (zm ⟨zuk,trivial⟩) call229 func229 (lOK aN)
abbrev zdO:=yD×(Value×(Int×Unit)×Unit)×Int×Int×Unit
def zqH (s:yD) (f_0:Value) (f_1:Int) (t7:Int) (t8:Int):Wy zdO Unit (Int⊕Unit):=.i (decide (t8<t7)) (.i (decide (0<=t8)&&decide (t8<Int.ofNat s.length)) (.bn (zie (s.getD t8.toNat default) f_0 f_1) λr0=>.i (r0) (.k (.inl t8)) (.h (s,(f_0,(f_1,()),()),t7,(IntKind.i64.wrap (t8+1)),()) ())) .d) (.k (.inr ()))
def zib (x:zdO) (y:Unit):=zqH x.1 x.2.1.1 x.2.1.2.1.1 x.2.2.1 x.2.2.2.1
def zqC (n:Nat) (s:yD) (f_0:Value) (f_1:Int) (t7:Int) (t8:Int):=zA (zib) (.inl default) n (s,(f_0,(f_1,()),()),t7,t8,()) ()
def zqP:LL ty zdO:=za (lSl 169) (za (lFn 229 (za (zGf (zg7 (λx=>(⟨x.1,x.2.1,x.2.2.1⟩:Value)) (λx=>(x.Kind,x.Int,x.Text,())) (λ_=>rfl) (za zj (za zj (za zG5 zr)))) 0) (za (zGf (za zj zr) 0) zr))) (za zj (za zj zr)))
def zpD (x:zdO) (y:Unit):Nat:=(x.1.length+Int.toNat x.2.1.2.1.1+Int.toNat x.2.2.1+Int.toNat x.2.2.2.1+1)
def zh7:=zc6 base 19 [(229,zko)] [] [(2,(kpL [0,1,7,8]))] [(2,1,[]),(2,0,(kpL [4]))] [(2,spW zqP z2k (zib) (.inl default) zsy zpD)] []
theorem zpz:zS zh7 (lp (body f228) 0):=zI (id:=2) (hl:=rfl)
def zq9 (s:yD) (f_0:Value) (f_1:Int):Wy0 (Int):=.bn (zqC (s.length+f_1.toNat +(Int.ofNat s.length).toNat +Int.toNat 0+1) s f_0 f_1 (Int.ofNat s.length) 0) λr2=>.i (isL r2) (.k (getL r2)) (.k (-1:Int))
def zdj (s:yD) (f_0:Value) (f_1:Int):=(zq9 s f_0 f_1).fin default
def zrr:AL base (yD×(Value×(Int×Unit)×Unit)×Unit):=zg (zh (vSl 169)) (zg (zh (vFn 229 (zzF (zYX 79) (zzF (zZY (zzF zhY zcX)) zcX)))) zC)
def zhw:=zi zrr λx=>((zdj x.1 x.2.1.1 x.2.1.2.1.1).1,zNi (zdj x.1 x.2.1.1 x.2.1.2.1.1).2)
theorem zoO:SdP 228 zhw:=
 sT (cx':=zh7) (zm ⟨zno,trivial⟩) call228 func228 (lOK (aC zpz aN))
def zoH:=zbN base 9 [(228,zhw),(229,zko)]
def zhn (s:yD) (f_0:Value) (f_1:Int):Wy0 (Bool):=.bn (zdj s f_0 f_1) λr0=>.k (decide (r0≥0))
def zbm (s:yD) (f_0:Value) (f_1:Int):=(zhn s f_0 f_1).fin default
def zgn:=zi zrr λx=>((zbm x.1 x.2.1.1 x.2.1.2.1.1).1,zSj (zbm x.1 x.2.1.1 x.2.1.2.1.1).2)
theorem zm6:SdP 178 zgn:=
 sT (cx':=zoH) (zm ⟨zoO,zno,trivial⟩) call178 func178 (lOK aN)
def zNT:=zbN base 43 [(91,zqZ),(178,zgn),(229,zko)]
def zC9 (fn:Int) (items:yD) (op:Int) (bound:Value):Wy0 (Bool):=.i (decide (fn<0)) (.k false) (.i (decide (fn>3)) (.k false) (.i (decide (op<5)) (.k false) (.i (decide (op>10)) (.k false) (.bn (zqn bound) λr3=>.i (!r3) (.k false) (.i (fn==0) (.i (bound.Kind != 0) (.k false) (.bn (zbm items bound fn) λr0=>.k (!r0))) (.i (fn==1) (.i (bound.Kind != 0) (.k false) (.bn (zbm items bound fn) λr1=>.k (!r1))) (.bn (zbm items bound fn) λr2=>.k (!r2))))))))
def zkK (fn:Int) (items:yD) (op:Int) (bound:Value):=(zC9 fn items op bound).fin default
def zQB:AL base (Int×yD×Int×Value×Unit):=zg (zh zhY) (zg (zh (vSl 169)) (zg (zh zhY) (zg (zh (zda 79)) zC)))
def zsq:=zi zQB λx=>((zkK x.1 x.2.1 x.2.2.1 x.2.2.2.1).1,zSj (zkK x.1 x.2.1 x.2.2.1 x.2.2.2.1).2)
theorem zyh:SdP 181 zsq:=
 sT (cx':=zNT) (zm ⟨zuk,zm6,zno,trivial⟩) call181 func181 (lOK aN)
def zEZ:=zbN base 7 []
def zvu (t:Term):Wy0 (Bool):=.k (Int.ofNat t.Fs.length==0)
def zhM (t:Term):=(zvu t).fin default
def zhN:=zi zM3 λx=>((zhM x.1).1,zSj (zhM x.1).2)
theorem zk0:SdP 227 zhN:=
 sT (cx':=zEZ) (zm trivial) call227 func227 (lOK aN)
abbrev zeg:=yB×Unit×Int×Int×Unit
def zsJ (s:yB) (t7:Int) (t8:Int):Wy zeg Unit (Int⊕Unit):=.i (decide (t8<t7)) (.i (decide (0<=t8)&&decide (t8<Int.ofNat s.length)) (.i ((zhM (s.getD t8.toNat default)).2) (.k (.inl t8)) (.h (s,(),t7,(IntKind.i64.wrap (t8+1)),()) ())) .d) (.k (.inr ()))
def zjA (x:zeg) (y:Unit):=zsJ x.1 x.2.2.1 x.2.2.2.1
def zsz (n:Nat) (s:yB) (t7:Int) (t8:Int):=zA (zjA) (.inl default) n (s,(),t7,t8,()) ()
def zsF:LL ty zeg:=za (lSl 107) (za (lFn 227 (zr)) (za zj (za zj zr)))
def zrS (x:zeg) (y:Unit):Nat:=(x.1.length+Int.toNat x.2.2.1+Int.toNat x.2.2.2.1+1)
def zjp:=zc6 base 19 [(227,zhN)] [] [(2,(kpL [0,1,7,8]))] [(2,1,[]),(2,0,(kpL [4]))] [(2,spW zsF z2k (zjA) (.inl default) zsy zrS)] []
theorem zrR:zS zjp (lp (body f221) 0):=zI (id:=2) (hl:=rfl)
def ztl (s:yB):Wy0 (Int):=.bn (zsz (s.length+(Int.ofNat s.length).toNat +Int.toNat 0+1) s (Int.ofNat s.length) 0) λr0=>.i (isL r0) (.k (getL r0)) (.k (-1:Int))
def zdU (s:yB):=(ztl s).fin default
def ztJ:AL base (yB×Unit×Unit):=zg (zh (vSl 107)) (zg (zh (vFn 227 zcX)) zC)
def ziw:=zi ztJ λx=>((zdU x.1).1,zNi (zdU x.1).2)
theorem zqA:SdP 221 ziw:=
 sT (cx':=zjp) (zm ⟨zk0,trivial⟩) call221 func221 (lOK (aC zrR aN))
def zqy:=zbN base 9 [(221,ziw),(227,zhN)]
def ziN (s:yB):Wy0 (Bool):=.bn (zdU s) λr0=>.k (decide (r0≥0))
def zdg (s:yB):=(ziN s).fin default
def zhr:=zi ztJ λx=>((zdg x.1).1,zSj (zdg x.1).2)
theorem zoz:SdP 161 zhr:=
 sT (cx':=zqy) (zm ⟨zqA,zk0,trivial⟩) call161 func161 (lOK aN)
def zIt:=zbN base 5 [(161,zhr),(227,zhN)]
def zyC (a:yB):Wy0 (Bool):=.bn (zdg a) λr0=>.k r0
def zfl (a:yB):=(zyC a).fin default
def zne:=zi zT6 λx=>((zfl x.1).1,zSj (zfl x.1).2)
theorem zuN:SdP 177 zne:=
 sT (cx':=zIt) (zm ⟨zoz,zk0,trivial⟩) call177 func177 (lOK aN)
def zKp:=zbN base 14 []
def zzZ (a:yB):Wy0 (Bool):=.i (Int.ofNat a.length==1) (.i (decide ((0:Int)<=(0:Int))&&decide (0<Int.ofNat a.length)) (.k (Int.ofNat (a.getD (Int.toNat 0) default).Fs.length==0)) .d) (.k false)
def zh4 (a:yB):=(zzZ a).fin default
def zoU:=zi zT6 λx=>((zh4 x.1).1,zSj (zh4 x.1).2)
theorem zvz:SdP 175 zoU:=
 sT (cx':=zKp) (zm trivial) call175 func175 (lOK aN)
def zQz:=zbN base 42 [(105,zkk)]
def zEg (a:yB):Wy0 (Bool):=.i (Int.ofNat a.length != 1) (.k false) (.i (decide ((0:Int)<=(0:Int))&&decide (0<Int.ofNat a.length)) (.i ((a.getD (Int.toNat 0) default).Cf != 1) (.k false) (.i (decide ((0:Int)<=(0:Int))&&decide (0<Int.ofNat a.length)) (.i (Int.ofNat (a.getD (Int.toNat 0) default).Fs.length != 1) (.k false) (.i (decide ((0:Int)<=(0:Int))&&decide (0<Int.ofNat a.length)) (.i (decide ((0:Int)<=(0:Int))&&decide (0<Int.ofNat (a.getD (Int.toNat 0) default).Fs.length)) (.i (((a.getD (Int.toNat 0) default).Fs.getD (Int.toNat 0) default).Exp==1) (.i (((a.getD (Int.toNat 0) default).Fs.getD (Int.toNat 0) default).At.Kind==2) (.k true) (.bn (zfS (At.mk ((a.getD (Int.toNat 0) default).Fs.getD (Int.toNat 0) default).At.Kind ((a.getD (Int.toNat 0) default).Fs.getD (Int.toNat 0) default).At.Row ((a.getD (Int.toNat 0) default).Fs.getD (Int.toNat 0) default).At.Ag ((a.getD (Int.toNat 0) default).Fs.getD (Int.toNat 0) default).At.Func ((a.getD (Int.toNat 0) default).Fs.getD (Int.toNat 0) default).At.Items ((a.getD (Int.toNat 0) default).Fs.getD (Int.toNat 0) default).At.Op ((a.getD (Int.toNat 0) default).Fs.getD (Int.toNat 0) default).At.Bd)) λr0=>.k r0)) (.k false)) .d) .d)) .d)) .d)
def zlJ (a:yB):=(zEg a).fin default
def ztU:=zi zT6 λx=>((zlJ x.1).1,zSj (zlJ x.1).2)
theorem zzQ:SdP 176 ztU:=
 sT (cx':=zQz) (zm ⟨znm,trivial⟩) call176 func176 (lOK aN)
def zY5:=zbN base 11 []
def zN2 (id:RowID):Wy0 (Bool):=.i (decide (id.Table≥1)) (.k (decide (id.Seq≥1))) (.k false)
def zro (id:RowID):=(zN2 id).fin default
def zum:=zi z4X λx=>((zro x.1).1,zSj (zro x.1).2)
theorem zyV:SdP 116 zum:=
 sT (cx':=zY5) (zm trivial) call116 func116 (lOK aN)
abbrev ze9:=yD×Unit×Int×Unit
def zeB (x_:yD) (i:Int):Wy ze9 Unit (Bool⊕Unit):=.i (decide (i>0)) (.i (decide (0<=i)&&decide (i<Int.ofNat x_.length)) (.i (decide (0<=IntKind.i64.wrap (i - 1))&&decide (IntKind.i64.wrap (i - 1)<Int.ofNat x_.length)) (.bn (zX (x_.getD i.toNat default) (x_.getD (IntKind.i64.wrap (i - 1)).toNat default)) λr0=>.i (decide (r0<0)) (.k (.inl false)) (.h (x_,(),(IntKind.i64.wrap (i - 1)),()) ())) .d) .d) (.k (.inr ()))
def zh3 (x:ze9) (y:Unit):=zeB x.1 x.2.2.1
def zeC (n:Nat) (x_:yD) (i:Int):=zA (zh3) (.inl default) n (x_,(),i,()) ()
def zqF:LL ty ze9:=za (lSl 169) (za (lFn 172 (zr)) (za zj zr))
def zid:=zc6 base 25 [(172,zfX)] [] [(2,(kpL [0,1,5]))] [(2,1,[]),(2,0,(kpL [4]))] [(2,spW zqF z2k (zh3) (.inl default) znr λx y=>(x.1.length+Int.toNat x.2.2.1+1))] []
theorem zpK:zS zid (lp (body f180) 0):=zI (id:=2) (hl:=rfl)
def zir (x_:yD):Wy0 (Bool):=.bn (zeC (x_.length+(IntKind.i64.wrap (Int.ofNat x_.length - 1)).toNat +1) x_ (IntKind.i64.wrap (Int.ofNat x_.length - 1))) λr2=>.i (isL r2) (.k (getL r2)) (.k true)
def zcl (x_:yD):=(zir x_).fin default
def zrE:AL base (yD×Unit×Unit):=zg (zh (vSl 169)) (zg (zh (vFn 172 zcX)) zC)
def zhp:=zi zrE λx=>((zcl x.1).1,zSj (zcl x.1).2)
theorem zoM:SdP 180 zhp:=
 sT (cx':=zid) (zm ⟨zig,trivial⟩) call180 func180 (lOK (aC zpK aN))
def zcQ (zc:yA->Bool×Bool) (ze:yB->Bool×Bool) (zd:yD->Bool×Bool) (zf:Wd->Bool×Bool):=zbN base 149 [(115,zoq),(116,zum),(172,zfX),(173,(zcn zc)),(174,(ziP ze)),(175,zoU),(176,ztU),(177,zne),(178,(zcO zd)),(179,(zdu zf)),(180,zhp),(181,zsq)]
def zca (zc:yA->Bool×Bool) (ze:yB->Bool×Bool) (zd:yD->Bool×Bool) (zf:Wd->Bool×Bool) (x_:At):Wy0 (Bool):=.i (x_.Kind==0) (.i (x_.Func != 0) (.k false) (.i (Int.ofNat x_.Items.length != 0) (.k false) (.i (x_.Op != 0) (.k false) (.i (!(x_.Bd.Kind==0&&(x_.Bd.Int==0&&(x_.Bd.Text.toList==(ByteArray.mk #[]).toList&&true)))) (.k false) (.bn (zc x_.Ag) λr1=>.i (r1) (.k false) (.bn (zro x_.Row) λr0=>.i (r0) (.k (Int.ofNat x_.Ag.length==0)) (.k false))))))) (.i (x_.Kind==1) (.i (x_.Func != 0) (.k false) (.i (Int.ofNat x_.Items.length != 0) (.k false) (.i (x_.Op != 0) (.k false) (.i (!(x_.Bd.Kind==0&&(x_.Bd.Int==0&&(x_.Bd.Text.toList==(ByteArray.mk #[]).toList&&true)))) (.k false) (.i (!(x_.Row.Table==0&&(x_.Row.Seq==0&&true))) (.k false) (.bn (zc x_.Ag) λr3=>.i (r3) (.k false) (.i (Int.ofNat x_.Ag.length==2) (.i (decide ((0:Int)<=(0:Int))&&decide (0<Int.ofNat x_.Ag.length)) (.i (decide ((0:Int)<=(1:Int))&&decide (1<Int.ofNat x_.Ag.length)) (.bn (zgB (x_.Ag.getD (Int.toNat 0) default) (x_.Ag.getD (Int.toNat 1) default)) λr2=>.k (!r2)) .d) .d) (.k false)))))))) (.i (x_.Kind==2) (.i (x_.Func != 0) (.k false) (.i (Int.ofNat x_.Items.length != 0) (.k false) (.i (x_.Op != 0) (.k false) (.i (!(x_.Bd.Kind==0&&(x_.Bd.Int==0&&(x_.Bd.Text.toList==(ByteArray.mk #[]).toList&&true)))) (.k false) (.i (!(x_.Row.Table==0&&(x_.Row.Seq==0&&true))) (.k false) (.bn (zc x_.Ag) λr6=>.i (r6) (.k false) (.i (Int.ofNat x_.Ag.length==1) (.i (decide ((0:Int)<=(0:Int))&&decide (0<Int.ofNat x_.Ag.length)) (.bn (zh4 (x_.Ag.getD (Int.toNat 0) default)) λr5=>.i (!r5) (.i (decide ((0:Int)<=(0:Int))&&decide (0<Int.ofNat x_.Ag.length)) (.bn (zlJ (x_.Ag.getD (Int.toNat 0) default)) λr4=>.k (!r4)) .d) (.k false)) .d) (.k false)))))))) (.i (x_.Kind==3) (.i (x_.Func != 0) (.k false) (.i (Int.ofNat x_.Items.length != 0) (.k false) (.i (x_.Op != 0) (.k false) (.i (!(x_.Bd.Kind==0&&(x_.Bd.Int==0&&(x_.Bd.Text.toList==(ByteArray.mk #[]).toList&&true)))) (.k false) (.i (!(x_.Row.Table==0&&(x_.Row.Seq==0&&true))) (.k false) (.bn (zc x_.Ag) λr8=>.i (r8) (.k false) (.i (Int.ofNat x_.Ag.length==1) (.i (decide ((0:Int)<=(0:Int))&&decide (0<Int.ofNat x_.Ag.length)) (.bn (zfl (x_.Ag.getD (Int.toNat 0) default)) λr7=>.k (!r7)) .d) (.k false)))))))) (.i (x_.Kind==4) (.i (!(x_.Row.Table==0&&(x_.Row.Seq==0&&true))) (.k false) (.bn (zc x_.Ag) λr12=>.i (r12) (.k false) (.bn (zd x_.Items) λr11=>.i (Int.ofNat x_.Ag.length==0) (.i (decide (Int.ofNat x_.Items.length>0)) (.i (!r11) (.bn (zcl x_.Items) λr10=>.i (r10) (.bn (zkK x_.Func x_.Items x_.Op x_.Bd) λr9=>.k r9) (.k false)) (.k false)) (.k false)) (.k false)))) (.i (x_.Func != 0) (.k false) (.i (Int.ofNat x_.Items.length != 0) (.k false) (.i (x_.Op != 0) (.k false) (.i (!(x_.Bd.Kind==0&&(x_.Bd.Int==0&&(x_.Bd.Text.toList==(ByteArray.mk #[]).toList&&true)))) (.k false) (.i (!(x_.Row.Table==0&&(x_.Row.Seq==0&&true))) (.k false) (.bn (zc x_.Ag) λr14=>.i (r14) (.k false) (.k false)))))))))))
def zj4 (zc:yA->Bool×Bool) (ze:yB->Bool×Bool) (zd:yD->Bool×Bool) (zf:Wd->Bool×Bool) (x_:At):=(zca zc ze zd zf x_).fin default
theorem zFw (zc:yA->Bool×Bool) (ze:yB->Bool×Bool) (zd:yD->Bool×Bool) (zf:Wd->Bool×Bool) (v_Row:RowID) (v_Args:yA) (v_Func:Int) (v_Items:yD) (v_Op:Int) (v_Bound:Value)  :zeP (zcQ zc ze zd zf) f107 (body f107) ⟨[.pure],[]⟩ [.pure (.agg (base.enc 143 (At.mk (Int.ofNat 0) v_Row v_Args v_Func v_Items v_Op v_Bound)))]=(zca zc ze zd zf (At.mk (Int.ofNat 0) v_Row v_Args v_Func v_Items v_Op v_Bound)).ev noH (λr=>some (zSj r)) none:=by kernel_rfl
theorem zF5 (zc:yA->Bool×Bool) (ze:yB->Bool×Bool) (zd:yD->Bool×Bool) (zf:Wd->Bool×Bool) (v_Row:RowID) (v_Args:yA) (v_Func:Int) (v_Items:yD) (v_Op:Int) (v_Bound:Value)  :zeP (zcQ zc ze zd zf) f107 (body f107) ⟨[.pure],[]⟩ [.pure (.agg (base.enc 143 (At.mk (Int.ofNat 1) v_Row v_Args v_Func v_Items v_Op v_Bound)))]=(zca zc ze zd zf (At.mk (Int.ofNat 1) v_Row v_Args v_Func v_Items v_Op v_Bound)).ev noH (λr=>some (zSj r)) none:=by kernel_rfl
theorem zFo (zc:yA->Bool×Bool) (ze:yB->Bool×Bool) (zd:yD->Bool×Bool) (zf:Wd->Bool×Bool) (v_Row:RowID) (v_Args:yA) (v_Func:Int) (v_Items:yD) (v_Op:Int) (v_Bound:Value)  :zeP (zcQ zc ze zd zf) f107 (body f107) ⟨[.pure],[]⟩ [.pure (.agg (base.enc 143 (At.mk (Int.ofNat 2) v_Row v_Args v_Func v_Items v_Op v_Bound)))]=(zca zc ze zd zf (At.mk (Int.ofNat 2) v_Row v_Args v_Func v_Items v_Op v_Bound)).ev noH (λr=>some (zSj r)) none:=by kernel_rfl
theorem zFh (zc:yA->Bool×Bool) (ze:yB->Bool×Bool) (zd:yD->Bool×Bool) (zf:Wd->Bool×Bool) (v_Row:RowID) (v_Args:yA) (v_Func:Int) (v_Items:yD) (v_Op:Int) (v_Bound:Value)  :zeP (zcQ zc ze zd zf) f107 (body f107) ⟨[.pure],[]⟩ [.pure (.agg (base.enc 143 (At.mk (Int.ofNat 3) v_Row v_Args v_Func v_Items v_Op v_Bound)))]=(zca zc ze zd zf (At.mk (Int.ofNat 3) v_Row v_Args v_Func v_Items v_Op v_Bound)).ev noH (λr=>some (zSj r)) none:=by kernel_rfl
theorem zFO (zc:yA->Bool×Bool) (ze:yB->Bool×Bool) (zd:yD->Bool×Bool) (zf:Wd->Bool×Bool) (v_Row:RowID) (v_Args:yA) (v_Func:Int) (v_Items:yD) (v_Op:Int) (v_Bound:Value)  :zeP (zcQ zc ze zd zf) f107 (body f107) ⟨[.pure],[]⟩ [.pure (.agg (base.enc 143 (At.mk (Int.ofNat 4) v_Row v_Args v_Func v_Items v_Op v_Bound)))]=(zca zc ze zd zf (At.mk (Int.ofNat 4) v_Row v_Args v_Func v_Items v_Op v_Bound)).ev noH (λr=>some (zSj r)) none:=by kernel_rfl
theorem zFm (zc:yA->Bool×Bool) (ze:yB->Bool×Bool) (zd:yD->Bool×Bool) (zf:Wd->Bool×Bool) (n:Nat) (v_Row:RowID) (v_Args:yA) (v_Func:Int) (v_Items:yD) (v_Op:Int) (v_Bound:Value)  :zeP (zcQ zc ze zd zf) f107 (body f107) ⟨[.pure],[]⟩ [.pure (.agg (base.enc 143 (At.mk (Int.ofNat (n+5)) v_Row v_Args v_Func v_Items v_Op v_Bound)))]=(zca zc ze zd zf (At.mk (Int.ofNat (n+5)) v_Row v_Args v_Func v_Items v_Op v_Bound)).ev noH (λr=>some (zSj r)) none:=by kernel_rfl
theorem zFN (zc:yA->Bool×Bool) (ze:yB->Bool×Bool) (zd:yD->Bool×Bool) (zf:Wd->Bool×Bool) (n:Nat) (v_Row:RowID) (v_Args:yA) (v_Func:Int) (v_Items:yD) (v_Op:Int) (v_Bound:Value)  :zeP (zcQ zc ze zd zf) f107 (body f107) ⟨[.pure],[]⟩ [.pure (.agg (base.enc 143 (At.mk (Int.negSucc n) v_Row v_Args v_Func v_Items v_Op v_Bound)))]=(zca zc ze zd zf (At.mk (Int.negSucc n) v_Row v_Args v_Func v_Items v_Op v_Bound)).ev noH (λr=>some (zSj r)) none:=by kernel_rfl
theorem zHd (zc:yA->Bool×Bool) (ze:yB->Bool×Bool) (zd:yD->Bool×Bool) (zf:Wd->Bool×Bool) (x_:At):zeP (zcQ zc ze zd zf) f107 (body f107) ⟨[.pure],[]⟩ [.pure (.agg (base.enc 143 x_))]=(zca zc ze zd zf x_).ev noH (λr=>some (zSj r)) none:=by
 obtain ⟨v_Kind,v_Row,v_Args,v_Func,v_Items,v_Op,v_Bound⟩:=x_
 match v_Kind with
 | .ofNat 0=>exact zFw zc ze zd zf v_Row v_Args v_Func v_Items v_Op v_Bound 
 | .ofNat 1=>exact zF5 zc ze zd zf v_Row v_Args v_Func v_Items v_Op v_Bound 
 | .ofNat 2=>exact zFo zc ze zd zf v_Row v_Args v_Func v_Items v_Op v_Bound 
 | .ofNat 3=>exact zFh zc ze zd zf v_Row v_Args v_Func v_Items v_Op v_Bound 
 | .ofNat 4=>exact zFO zc ze zd zf v_Row v_Args v_Func v_Items v_Op v_Bound 
 | .ofNat (n+5)=>exact zFm zc ze zd zf n v_Row v_Args v_Func v_Items v_Op v_Bound 
 | .negSucc n=>exact zFN zc ze zd zf n v_Row v_Args v_Func v_Items v_Op v_Bound 
theorem zEk (zc:yA->Bool×Bool) (ze:yB->Bool×Bool) (zd:yD->Bool×Bool) (zf:Wd->Bool×Bool) (zmm:SdP 173 (zcn zc)) (zgk:SdP 174 (ziP ze)) (znO:SdP 178 (zcO zd)) (zgh:SdP 179 (zdu zf)):SdP 107 (zmS (zj4 zc ze zd zf)):=
 zZQ (cx':=(zcQ zc ze zd zf)) zBb zfB z4l (zm ⟨zt3,zyV,zig,zmm,zgk,zvz,zzQ,zuN,znO,zgh,zoM,zyh,trivial⟩) call107 func107 (c:=body f107) (by kernel_rfl) (zsX (l:=[]) (by kernel_rfl) trivial) (sg:=⟨[.pure],[]⟩) (A:=z3t) (res:=zSj) (W:=λx=>zca zc ze zd zf x.1) (z:=default) (λx=>zHd zc ze zd zf x.1) (λ_=>by kernel_rfl)
def zEp (zbC:yB->Bool×Bool):=zbN base 11 [(52,(ziP zbC))]
def zvs (zbC:yB->Bool×Bool) (a:yB):Wy0 (Bool):=.bn (zbC a) λr0=>.i (!r0) (.k true) (.k (Int.ofNat a.length==0))
def zkS (zbC:yB->Bool×Bool) (a:yB):=(zvs zbC a).fin default
theorem zCA (zbC:yB->Bool×Bool) (zv3:SdP 52 (ziP zbC)):SdP 174 (ziP (zkS zbC)):=
 sT (cx':=(zEp zbC)) (zm ⟨zv3,trivial⟩) call174 func174 (lOK aN)
def zED (zbC:yB->Bool×Bool):=zbN base 13 [(52,(ziP zbC))]
def zvy (zbC:yB->Bool×Bool) (w:Wd):Wy0 (Bool):=.bn (zbC w.Ann) λr0=>.i (!r0) (.k true) (.k (Int.ofNat w.Ann.length==0))
def zkT (zbC:yB->Bool×Bool) (w:Wd):=(zvy zbC w).fin default
theorem zCx (zbC:yB->Bool×Bool) (zv3:SdP 52 (ziP zbC)):SdP 179 (zdu (zkT zbC)):=
 sT (cx':=(zED zbC)) (zm ⟨zv3,trivial⟩) call179 func179 (lOK aN)
def zl0 (ze:yB->Bool×Bool) (zU:yA->Bool×Int):=zbN base 9 [(174,(ziP ze)),(226,(zcI zU))]
def zfI (ze:yB->Bool×Bool) (zU:yA->Bool×Int) (s:yA):Wy0 (Bool):=.bn (zU s) λr0=>.k (decide (r0≥0))
def zcp (ze:yB->Bool×Bool) (zU:yA->Bool×Int) (s:yA):=(zfI ze zU s).fin default
theorem zk9 (ze:yB->Bool×Bool) (zU:yA->Bool×Int) (zgk:SdP 174 (ziP ze)) (znx:SdP 226 (zcI zU)):SdP 173 (zcn (zcp ze zU)):=
 sT (cx':=(zl0 ze zU)) (zm ⟨zgk,znx,trivial⟩) call173 func173 (lOK aN)
def znE (zf:Wd->Bool×Bool) (zY:yD->Bool×Int):=zbN base 9 [(179,(zdu zf)),(228,(zc3 zY))]
def zgH (zf:Wd->Bool×Bool) (zY:yD->Bool×Int) (s:yD):Wy0 (Bool):=.bn (zY s) λr0=>.k (decide (r0≥0))
def zcM (zf:Wd->Bool×Bool) (zY:yD->Bool×Int) (s:yD):=(zgH zf zY s).fin default
theorem zmp (zf:Wd->Bool×Bool) (zY:yD->Bool×Int) (zgh:SdP 179 (zdu zf)) (zqg:SdP 228 (zc3 zY)):SdP 178 (zcO (zcM zf zY)):=
 sT (cx':=(znE zf zY)) (zm ⟨zgh,zqg,trivial⟩) call178 func178 (lOK aN)
abbrev zc2:=yA×Unit×Int×Int×Unit
def zmR (ze:yB->Bool×Bool) (s:yA) (t7:Int) (t8:Int):Wy zc2 Unit (Int⊕Unit):=.i (decide (t8<t7)) (.i (decide (0<=t8)&&decide (t8<Int.ofNat s.length)) (.bn (ze (s.getD t8.toNat default)) λr0=>.i (r0) (.k (.inl t8)) (.h (s,(),t7,(IntKind.i64.wrap (t8+1)),()) ())) .d) (.k (.inr ()))
def zf9 (ze:yB->Bool×Bool) (x:zc2) (y:Unit):=zmR ze x.1 x.2.2.1 x.2.2.2.1
def zm0 (ze:yB->Bool×Bool) (n:Nat) (s:yA) (t7:Int) (t8:Int):=zA (zf9 ze) (.inl default) n (s,(),t7,t8,()) ()
def zmO:LL ty zc2:=za (lSl 51) (za (lFn 174 (zr)) (za zj (za zj zr)))
def zmE (x:zc2) (y:Unit):Nat:=(x.1.length+Int.toNat x.2.2.1+Int.toNat x.2.2.2.1+1)
def zga (ze:yB->Bool×Bool):=zc6 base 19 [(174,(ziP ze))] [] [(2,(kpL [0,1,7,8]))] [(2,1,[]),(2,0,(kpL [4]))] [(2,spW zmO z2k (zf9 ze) (.inl default) zsy zmE)] []
theorem zmv (ze:yB->Bool×Bool):zS (zga ze) (lp (body f226) 0):=zI (id:=2) (hl:=rfl)
def znn (ze:yB->Bool×Bool) (s:yA):Wy0 (Int):=.bn (zm0 ze (s.length+(Int.ofNat s.length).toNat +Int.toNat 0+1) s (Int.ofNat s.length) 0) λr2=>.i (isL r2) (.k (getL r2)) (.k (-1:Int))
def zcH (ze:yB->Bool×Bool) (s:yA):=(znn ze s).fin default
theorem zlZ (ze:yB->Bool×Bool) (zgk:SdP 174 (ziP ze)):SdP 226 (zcI (zcH ze)):=
 sT (cx':=(zga ze)) (zm ⟨zgk,trivial⟩) call226 func226 (lOK (aC (zmv ze) aN))
end Go.Proofs.YtoknknbmfmddbaaGreatDoor
end
