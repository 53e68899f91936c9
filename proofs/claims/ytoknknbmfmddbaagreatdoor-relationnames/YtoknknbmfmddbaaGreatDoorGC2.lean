/- Texts of this claim, joined (the program, its functions in plain words, and what they compute). -/
import Derived.Test.YtoknknbmfmddbaaGreatDoorGC1
set_option autoImplicit false
set_option linter.unusedVariables false
set_option linter.unusedSectionVars false
set_option linter.unusedSimpArgs false
set_option maxRecDepth 1000000
set_option maxHeartbeats 0
noncomputable section
namespace Go.Proofs.YtoknknbmfmddbaaGreatDoor
open Go Go.Ab
open Go.Proofs.Tryz
abbrev zcj:=yG×yG×Unit×yG×Int×Int×Unit
abbrev zft:=Int⊕(yG×yG)
def zjr (s1:yG) (s2:yG) (t11:yG) (t12:Int) (t13:Int):Wy zcj Unit zft:=.i (decide (t13<t12)) (.i (decide (0<=t13)&&decide (t13<Int.ofNat t11.length)) (.i (decide (t13≥Int.ofNat s2.length)) (.k (.inl 1)) (.i (decide (0<=t13)&&decide (t13<Int.ofNat s2.length)) (.bn (zjc (t11.getD t13.toNat default) (s2.getD t13.toNat default)) λr0=>.i (r0 != 0) (.k (.inl (r0))) (.h (s1,s2,(),t11,t12,(IntKind.i64.wrap (t13+1)),()) ())) .d)) .d) (.k (.inr (s1,s2)))
def zek (x:zcj) (y:Unit):=zjr x.1 x.2.1 x.2.2.2.1 x.2.2.2.2.1 x.2.2.2.2.2.1
def zjv (n:Nat) (s1:yG) (s2:yG) (t11:yG) (t12:Int) (t13:Int):=zA (zek) (.inl default) n (s1,s2,(),t11,t12,t13,()) ()
def zjo (r:zft):LTree ty:=.ite (isL r) (.done .ret [.lit (.int .i64 (getL r))] []) (.done (.exit 0) [.sl 79 (getR r).1,.sl 79 (getR r).2] [])
def zjy:LL ty zcj:=za (lSl 79) (za (lSl 79) (za (lFn 131 (zm)) (za (lSl 79) (za zj (za zj zm)))))
def zjp (x:zcj) (y:Unit):Nat:=(x.1.length+x.2.1.length+x.2.2.2.1.length+Int.toNat x.2.2.2.2.1+Int.toNat x.2.2.2.2.2.1+1)
def zel:=zb1 base 39 [(131,zms)] [] [(2,(kpL [0,1,2,11,12,13]))] [(2,1,(kpL [0,1])),(2,0,(kpL [6]))] [(2,spW zjy z4x (zek) (.inl default) zjo zjp)] []
theorem zjl:zJ zel (lp (body f130) 0):=zq (id:=2) (hl:=rfl)
def zjT (s1:yG) (s2:yG):Wy0 (Int):=.bn (zjv (s1.length+s2.length+s1.length+(Int.ofNat s1.length).toNat +Int.toNat 0+1) s1 s2 s1 (Int.ofNat s1.length) 0) λr2=>.i (isL r2) (.k (getL r2)) (.i (decide (Int.ofNat (getR r2).1.length<Int.ofNat (getR r2).2.length)) (.k (-1:Int)) (.k 0))
def zb3 (s1:yG) (s2:yG):=(zjT s1 s2).fin default
def zjY:AL base (yG×yG×Unit×Unit):=zd (ze (vSl 79)) (zd (ze (vSl 79)) (zd (ze (vFn 131 zc1)) zt))
def zed:=zh zjY λx=>((zb3 x.1 x.2.1).1,zMl (zb3 x.1 x.2.1).2)
theorem zi0:SdP 130 zed:=
 sT (cx':=zel) (zi ⟨zqu,trivial⟩) call130 func130 (lOK (aC zjl aN))
def zQY:=zbx base 8 [(130,zed),(131,zms)]
def zDv (a:yG) (b:yG):Wy0 (Int):=.bn (zb3 a b) λr0=>.k r0
def zn9 (a:yG) (b:yG):=(zDv a b).fin default
def zSE:AL base (yG×yG×Unit):=zd (ze (vSl 79)) (zd (ze (vSl 79)) zt)
def zzq:=zh zSE λx=>((zn9 x.1 x.2.1).1,zMl (zn9 x.1 x.2.1).2)
theorem zKF:SdP 77 zzq:=
 sT (cx':=zQY) (zi ⟨zi0,zqu,trivial⟩) call77 func77 (lOK aN)
def zST:=zbx base 10 [(77,zzq)]
def zFB (x_:Row) (y_:Row):Wy0 (Int):=.bn (zn9 x_.Values y_.Values) λr0=>.k r0
def zcn (x_:Row) (y_:Row):=(zFB x_ y_).fin default
def zTM:AL base (Row×Row×Unit):=zd (ze (zcd 54)) (zd (ze (zcd 54)) zt)
def zfp:=zh zTM λx=>((zcn x.1 x.2.1).1,zMl (zcn x.1 x.2.1).2)
theorem zgn:SdP 53 zfp:=
 sT (cx':=zST) (zi ⟨zKF,trivial⟩) call53 func53 (lOK aN)
def zSR:=zbx base 16 [(53,zfp),(115,zmZ)]
def zTO (x_:Row) (y_:Row):Wy0 (Bool):=.bn (zcn x_ y_) λr1=>.i (r1==0) (.bn (zhA x_.Ann y_.Ann) λr0=>.k r0) (.k false)
def zAp (x_:Row) (y_:Row):=(zTO x_ y_).fin default
def ztI:=zh zTM λx=>((zAp x.1 x.2.1).1,zTe (zAp x.1 x.2.1).2)
theorem zzJ:SdP 60 ztI:=
 sT (cx':=zSR) (zi ⟨zgn,zsC,trivial⟩) call60 func60 (lOK aN)
abbrev zdg:=yF×Unit×yF×Int×Int×Unit
def zmQ (s2:yF) (t15:yF) (t16:Int) (t17:Int):Wy zdg Unit (Bool⊕Unit):=.i (decide (t17<t16)) (.i (decide (0<=t17)&&decide (t17<Int.ofNat t15.length)) (.i (decide (0<=t17)&&decide (t17<Int.ofNat s2.length)) (.bn (zAp (t15.getD t17.toNat default) (s2.getD t17.toNat default)) λr0=>.i (!r0) (.k (.inl false)) (.h (s2,(),t15,t16,(IntKind.i64.wrap (t17+1)),()) ())) .d) .d) (.k (.inr ()))
def zf1 (x:zdg) (y:Unit):=zmQ x.1 x.2.2.1 x.2.2.2.1 x.2.2.2.2.1
def zmN (n:Nat) (s2:yF) (t15:yF) (t16:Int) (t17:Int):=zA (zf1) (.inl default) n (s2,(),t15,t16,t17,()) ()
def zmp (r:Bool⊕Unit):LTree ty:=.ite (isL r) (.done .ret [.lit (.bool (getL r))] []) (.done (.exit 0) [] [])
def zmV:LL ty zdg:=za (lSl 54) (za (lFn 60 (zm)) (za (lSl 54) (za zj (za zj zm))))
def zmn (x:zdg) (y:Unit):Nat:=(x.1.length+x.2.2.1.length+Int.toNat x.2.2.2.1+Int.toNat x.2.2.2.2.1+1000)
def zfZ:=zb1 base 32 [(60,ztI)] [] [(4,(kpL [1,2,15,16,17]))] [(4,1,[]),(4,0,(kpL [6]))] [(4,spW zmV z4x (zf1) (.inl default) zmp zmn)] []
theorem zmr:zJ zfZ (lp (body f59) 0):=zq (id:=4) (hl:=rfl)
def znI (s1:yF) (s2:yF):Wy0 (Bool):=.i (Int.ofNat s1.length != Int.ofNat s2.length) (.k false) (.bn (zmN (s2.length+s1.length+(Int.ofNat s1.length).toNat +Int.toNat 0+1000) s2 s1 (Int.ofNat s1.length) 0) λr2=>.i (isL r2) (.k (getL r2)) (.k true))
def zd3 (s1:yF) (s2:yF):=(znI s1 s2).fin default
def znF:AL base (yF×yF×Unit×Unit):=zd (ze (vSl 54)) (zd (ze (vSl 54)) (zd (ze (vFn 60 zc1)) zt))
def zfs:=zh znF λx=>((zd3 x.1 x.2.1).1,zTe (zd3 x.1 x.2.1).2)
theorem zlL:SdP 59 zfs:=
 sT (cx':=zfZ) (zi ⟨zzJ,trivial⟩) call59 func59 (lOK (aC zmr aN))
abbrev ze4:=yH×yH×Int×Int×Unit
def zwC (s1:yH) (s2:yH) (t12:Int) (t13:Int):Wy ze4 Unit (Bool⊕Unit):=.i (decide (t13<t12)) (.i (decide (0<=t13)&&decide (t13<Int.ofNat s1.length)) (.i (decide (0<=t13)&&decide (t13<Int.ofNat s2.length)) (.i (!((s1.getD t13.toNat default).Name.toList==(s2.getD t13.toNat default).Name.toList&&((s1.getD t13.toNat default).Type_==(s2.getD t13.toNat default).Type_&&true))) (.k (.inl false)) (.h (s1,s2,t12,(IntKind.i64.wrap (t13+1)),()) ())) .d) .d) (.k (.inr ()))
def zln (x:ze4) (y:Unit):=zwC x.1 x.2.1 x.2.2.1 x.2.2.2.1
def zwy (n:Nat) (s1:yH) (s2:yH) (t12:Int) (t13:Int):=zA (zln) (.inl default) n (s1,s2,t12,t13,()) ()
def zww:LL ty ze4:=za (lSl 75) (za (lSl 75) (za zj (za zj zm)))
def zvZ (x:ze4) (y:Unit):Nat:=(x.1.length+x.2.1.length+Int.toNat x.2.2.1+Int.toNat x.2.2.2.1+1000)
def zli:=zb1 base 26 [] [] [(4,(kpL [0,1,12,13]))] [(4,1,[]),(4,0,(kpL [4]))] [(4,spW zww z4x (zln) (.inl default) zmp zvZ)] []
theorem zvw:zJ zli (lp (body f58) 0):=zq (id:=4) (hl:=rfl)
def zxb (s1:yH) (s2:yH):Wy0 (Bool):=.i (Int.ofNat s1.length != Int.ofNat s2.length) (.k false) (.bn (zwy (s1.length+s2.length+(Int.ofNat s1.length).toNat +Int.toNat 0+1000) s1 s2 (Int.ofNat s1.length) 0) λr0=>.i (isL r0) (.k (getL r0)) (.k true))
def zie (s1:yH) (s2:yH):=(zxb s1 s2).fin default
def zxd:AL base (yH×yH×Unit):=zd (ze (vSl 75)) (zd (ze (vSl 75)) zt)
def zkE:=zh zxd λx=>((zie x.1 x.2.1).1,zTe (zie x.1 x.2.1).2)
theorem zuj:SdP 58 zkE:=
 sT (cx':=zli) (zi trivial) call58 func58 (lOK (aC zvw aN))
def zXw:=zbx base 17 [(58,zkE),(59,zfs),(60,ztI)]
def zZK (a:Relation) (b:Relation):Wy0 (Bool):=.bn (zie a.Columns b.Columns) λr1=>.i (r1) (.bn (zd3 a.Rows b.Rows) λr0=>.k r0) (.k false)
def zNF (a:Relation) (b:Relation):=(zZK a b).fin default
def zZI:AL base (Relation×Relation×Unit):=zd (ze (zcd 25)) (zd (ze (zcd 25)) zt)
def zDw:=zh zZI λx=>((zNF x.1 x.2.1).1,zTe (zNF x.1 x.2.1).2)
theorem zQr:SdP 16 zDw:=
 sT (cx':=zXw) (zi ⟨zuj,zlL,zzJ,trivial⟩) call16 func16 (lOK aN)
def zUU:AL base (yB×Unit):=zd (ze (vSl 107)) zt
def zhC (F:yB->Bool×Bool):Ab.Spec ty:=zh zUU λx=>((F x.1).1,zTe (F x.1).2)
def zl8 (F:At->Bool×Bool):Ab.Spec ty:=zh z6N λx=>((F x.1).1,zTe (F x.1).2)
def zHz:AL base (Wd×Unit):=zd (ze (zcd 169)) zt
def zdj (F:Wd->Bool×Bool):Ab.Spec ty:=zh zHz λx=>((F x.1).1,zTe (F x.1).2)
def znK:AL base (yA×Unit×Unit):=zd (ze (vSl 51)) (zd (ze (vFn 174 zc1)) zt)
def zcz (F:yA->Bool×Int):Ab.Spec ty:=zh znK λx=>((F x.1).1,zMl (F x.1).2)
def zck (F:yA->Bool×Bool):Ab.Spec ty:=zh znK λx=>((F x.1).1,zTe (F x.1).2)
def zpK:AL base (yD×Unit×Unit):=zd (ze (vSl 169)) (zd (ze (vFn 179 zc1)) zt)
def zcU (F:yD->Bool×Int):Ab.Spec ty:=zh zpK λx=>((F x.1).1,zMl (F x.1).2)
def zcC (F:yD->Bool×Bool):Ab.Spec ty:=zh zpK λx=>((F x.1).1,zTe (F x.1).2)
def zIg:=zbx base 11 []
def zyI (x_:At):Wy0 (Bool):=.i (x_.Kind==3) (.k true) (.k (x_.Kind==4))
def zff (x_:At):=(zyI x_).fin default
def zjg:=zh z6N λx=>((zff x.1).1,zTe (zff x.1).2)
theorem zmu:SdP 105 zjg:=
 sT (cx':=zIg) (zi trivial) call105 func105 (lOK aN)
def zog (F:yB->Bool×Int):Ab.Spec ty:=zh zUU λx=>((F x.1).1,zMl (F x.1).2)
abbrev zsr:=Int×Unit×yB×Int×Int×yC×Int×Int×yA×Int×Int×Unit
abbrev zFF:=Int×yB×Int×Int×yC×Int×Int×Fc
abbrev zrB:=Int×yB×Int×Int×yC×Int×Int×yD×Int×Int×Unit
abbrev zED:=Int×yB×Int×Int×yC×Int×Int
abbrev zse:=Int×yB×Int×Int×yC×Int×Int×Unit
abbrev zE1:=Int×yB×Int×Int
abbrev zr7:=Int×yB×Int×Int×Unit
def zju (zp:yB->Bool×Int) (n_:Int) (t12:yB) (t13:Int) (t14:Int) (t25:yC) (t26:Int) (t27:Int) (t33:yA) (t34:Int) (t35:Int) (f:Fc):Wy zsr (Fc×Unit) zFF:=.i (decide (t35<t34)) (.i (decide (0<=t35)&&decide (t35<Int.ofNat t33.length)) (.bn (zp (t33.getD t35.toNat default)) λr0=>.h ((IntKind.i64.wrap (n_+r0)),(),t12,t13,t14,t25,t26,t27,t33,t34,(IntKind.i64.wrap (t35+1)),()) (f,())) .d) (.k (n_,t12,t13,t14,t25,t26,t27,f))
def ztH (zp:yB->Bool×Int) (x:zsr) (y:Fc×Unit):=zju zp x.1 x.2.2.1 x.2.2.2.1 x.2.2.2.2.1 x.2.2.2.2.2.1 x.2.2.2.2.2.2.1 x.2.2.2.2.2.2.2.1 x.2.2.2.2.2.2.2.2.1 x.2.2.2.2.2.2.2.2.2.1 x.2.2.2.2.2.2.2.2.2.2.1 y.1
def zAR (zp:yB->Bool×Int) (n:Nat) (n_:Int) (t12:yB) (t13:Int) (t14:Int) (t25:yC) (t26:Int) (t27:Int) (t33:yA) (t34:Int) (t35:Int) (f:Fc):=zA (ztH zp) default n (n_,(),t12,t13,t14,t25,t26,t27,t33,t34,t35,()) (f,())
def zME (r:zFF):LTree ty:=.done (.exit 4) [.lit (.int .i64 r.1),.ptr 248 0,.sl 107 r.2.1,.lit (.int .i64 r.2.2.1),.lit (.int .i64 r.2.2.2.1),.sl 145 r.2.2.2.2.1,.lit (.int .i64 r.2.2.2.2.2.1),.lit (.int .i64 r.2.2.2.2.2.2.1)] [.box (base.enc 145 r.2.2.2.2.2.2.2) false]
def zNo:LL ty zsr:=za zj (za (zdH 248 0) (za (lSl 107) (za zj (za zj (za (lSl 145) (za zj (za zj (za (lSl 51) (za zj (za zj zm))))))))))
def zOo:BL ty (Fc×Unit):=zfj (zgi (λx=>(⟨⟨x.1,⟨x.2.1,x.2.2.1⟩,x.2.2.2.1,x.2.2.2.2.1,x.2.2.2.2.2.1,x.2.2.2.2.2.2.1,⟨x.2.2.2.2.2.2.2.1,x.2.2.2.2.2.2.2.2.1,x.2.2.2.2.2.2.2.2.2.1⟩⟩,x.2.2.2.2.2.2.2.2.2.2.1⟩:Fc)) (λx=>(x.At.Kind,x.At.Row.Table,x.At.Row.Seq,x.At.Ag,x.At.Func,x.At.Items,x.At.Op,x.At.Bd.Kind,x.At.Bd.Int,x.At.Bd.Text,x.Exp,())) (λ_=>rfl) (za (zS .i64) (za (zS .i64) (za (zS .i64) (za (lSl 51) (za (zS .i64) (za (lSl 169) (za (zS .i64) (za (zS .i64) (za (zS .i64) (za znN (za (zS .i64) zm)))))))))))) false (zbg)
def zjE (zp:yB->Bool×Int) (n_:Int) (t12:yB) (t13:Int) (t14:Int) (t25:yC) (t26:Int) (t27:Int) (t46:yD) (t47:Int) (t48:Int):Wy zrB Unit zED:=.i (decide (t48<t47)) (.i (decide (0<=t48)&&decide (t48<Int.ofNat t46.length)) (.bn (zp (t46.getD t48.toNat default).Ann) λr2=>.h ((IntKind.i64.wrap (n_+IntKind.i64.wrap (1+r2))),t12,t13,t14,t25,t26,t27,t46,t47,(IntKind.i64.wrap (t48+1)),()) ()) .d) (.k (n_,t12,t13,t14,t25,t26,t27))
def ztp (zp:yB->Bool×Int) (x:zrB) (y:Unit):=zjE zp x.1 x.2.1 x.2.2.1 x.2.2.2.1 x.2.2.2.2.1 x.2.2.2.2.2.1 x.2.2.2.2.2.2.1 x.2.2.2.2.2.2.2.1 x.2.2.2.2.2.2.2.2.1 x.2.2.2.2.2.2.2.2.2.1
def zBa (zp:yB->Bool×Int) (n:Nat) (n_:Int) (t12:yB) (t13:Int) (t14:Int) (t25:yC) (t26:Int) (t27:Int) (t46:yD) (t47:Int) (t48:Int):=zA (ztp zp) default n (n_,t12,t13,t14,t25,t26,t27,t46,t47,t48,()) ()
def zMH (r:zED):LTree ty:=.done (.exit 6) [.lit (.int .i64 r.1),.sl 107 r.2.1,.lit (.int .i64 r.2.2.1),.lit (.int .i64 r.2.2.2.1),.sl 145 r.2.2.2.2.1,.lit (.int .i64 r.2.2.2.2.2.1),.lit (.int .i64 r.2.2.2.2.2.2)] []
def zN9:LL ty zrB:=za zj (za (lSl 107) (za zj (za zj (za (lSl 145) (za zj (za zj (za (lSl 169) (za zj (za zj zm)))))))))
def zkA (zp:yB->Bool×Int) (n_:Int) (t12:yB) (t13:Int) (t14:Int) (t25:yC) (t26:Int) (t27:Int):Wy zse Unit zE1:=.i (decide (t27<t26)) (.i (decide (0<=t27)&&decide (t27<Int.ofNat t25.length)) (.bn (zAR zp (n_.toNat +t12.length+t13.toNat +t14.toNat +t25.length+t26.toNat +t27.toNat +(t25.getD t27.toNat default).At.Ag.length+(Int.ofNat (t25.getD t27.toNat default).At.Ag.length).toNat +Int.toNat 0+(t25.getD t27.toNat default).At.Ag.length+(t25.getD t27.toNat default).At.Items.length+1) n_ t12 t13 t14 t25 t26 t27 (t25.getD t27.toNat default).At.Ag (Int.ofNat (t25.getD t27.toNat default).At.Ag.length) 0 (FO.mk (At.mk (t25.getD t27.toNat default).At.Kind (t25.getD t27.toNat default).At.Row (t25.getD t27.toNat default).At.Ag (t25.getD t27.toNat default).At.Func (t25.getD t27.toNat default).At.Items (t25.getD t27.toNat default).At.Op (t25.getD t27.toNat default).At.Bd) (t25.getD t27.toNat default).Exp)) λr5=>.bn (zBa zp (r5.1.toNat +r5.2.1.length+r5.2.2.1.toNat +r5.2.2.2.1.toNat +r5.2.2.2.2.1.length+r5.2.2.2.2.2.1.toNat +r5.2.2.2.2.2.2.1.toNat +r5.2.2.2.2.2.2.2.At.Items.length+(Int.ofNat r5.2.2.2.2.2.2.2.At.Items.length).toNat +Int.toNat 0+1) r5.1 r5.2.1 r5.2.2.1 r5.2.2.2.1 r5.2.2.2.2.1 r5.2.2.2.2.2.1 r5.2.2.2.2.2.2.1 r5.2.2.2.2.2.2.2.At.Items (Int.ofNat r5.2.2.2.2.2.2.2.At.Items.length) 0) λr4=>.h ((r4.1),(r4.2.1),(r4.2.2.1),(r4.2.2.2.1),(r4.2.2.2.2.1),(r4.2.2.2.2.2.1),(IntKind.i64.wrap (r4.2.2.2.2.2.2+1)),()) ()) .d) (.k (n_,t12,t13,t14))
def zvc (zp:yB->Bool×Int) (x:zse) (y:Unit):=zkA zp x.1 x.2.1 x.2.2.1 x.2.2.2.1 x.2.2.2.2.1 x.2.2.2.2.2.1 x.2.2.2.2.2.2.1
def zBC (zp:yB->Bool×Int) (n:Nat) (n_:Int) (t12:yB) (t13:Int) (t14:Int) (t25:yC) (t26:Int) (t27:Int):=zA (zvc zp) default n (n_,t12,t13,t14,t25,t26,t27,()) ()
def zOq (r:zE1):LTree ty:=.done (.exit 2) [.lit (.int .i64 r.1),.sl 107 r.2.1,.lit (.int .i64 r.2.2.1),.lit (.int .i64 r.2.2.2)] []
def zPC:LL ty zse:=za zj (za (lSl 107) (za zj (za zj (za (lSl 145) (za zj (za zj zm))))))
def zkx (zp:yB->Bool×Int) (n_:Int) (t12:yB) (t13:Int) (t14:Int):Wy zr7 Unit (Int):=.i (decide (t14<t13)) (.i (decide (0<=t14)&&decide (t14<Int.ofNat t12.length)) (.bn (zBC zp ((IntKind.i64.wrap (n_+IntKind.i64.wrap (1+Int.ofNat (t12.getD t14.toNat default).Fs.length))).toNat +t12.length+t13.toNat +t14.toNat +(t12.getD t14.toNat default).Fs.length+(Int.ofNat (t12.getD t14.toNat default).Fs.length).toNat +Int.toNat 0+1) (IntKind.i64.wrap (n_+IntKind.i64.wrap (1+Int.ofNat (t12.getD t14.toNat default).Fs.length))) t12 t13 t14 (t12.getD t14.toNat default).Fs (Int.ofNat (t12.getD t14.toNat default).Fs.length) 0) λr8=>.h ((r8.1),(r8.2.1),(r8.2.2.1),(IntKind.i64.wrap (r8.2.2.2+1)),()) ()) .d) (.k n_)
def zvf (zp:yB->Bool×Int) (x:zr7) (y:Unit):=zkx zp x.1 x.2.1 x.2.2.1 x.2.2.2.1
def zCi (zp:yB->Bool×Int) (n:Nat) (n_:Int) (t12:yB) (t13:Int) (t14:Int):=zA (zvf zp) default n (n_,t12,t13,t14,()) ()
def zN0 (r:Int):LTree ty:=.done (.exit 0) [.lit (.int .i64 r)] []
def zPu:LL ty zr7:=za zj (za (lSl 107) (za zj (za zj zm)))
def zMJ (x:zsr) (y:Fc×Unit):Nat:=(Int.toNat x.1+x.2.2.1.length+Int.toNat x.2.2.2.1+Int.toNat x.2.2.2.2.1+x.2.2.2.2.2.1.length+Int.toNat x.2.2.2.2.2.2.1+Int.toNat x.2.2.2.2.2.2.2.1+x.2.2.2.2.2.2.2.2.1.length+Int.toNat x.2.2.2.2.2.2.2.2.2.1+Int.toNat x.2.2.2.2.2.2.2.2.2.2.1+y.1.At.Ag.length+y.1.At.Items.length+1)
def zMm (x:zrB) (y:Unit):Nat:=(Int.toNat x.1+x.2.1.length+Int.toNat x.2.2.1+Int.toNat x.2.2.2.1+x.2.2.2.2.1.length+Int.toNat x.2.2.2.2.2.1+Int.toNat x.2.2.2.2.2.2.1+x.2.2.2.2.2.2.2.1.length+Int.toNat x.2.2.2.2.2.2.2.2.1+Int.toNat x.2.2.2.2.2.2.2.2.2.1+1)
def zOi (x:zse) (y:Unit):Nat:=(Int.toNat x.1+x.2.1.length+Int.toNat x.2.2.1+Int.toNat x.2.2.2.1+x.2.2.2.2.1.length+Int.toNat x.2.2.2.2.2.1+Int.toNat x.2.2.2.2.2.2.1+1)
def zOz (x:zr7) (y:Unit):Nat:=(Int.toNat x.1+x.2.1.length+Int.toNat x.2.2.1+Int.toNat x.2.2.2.1+1)
def zks (zp:yB->Bool×Int):=zb1 base 62 [(160,(zog zp))] [] [(3,(kpL [3,12,13,14])),(7,(kpL [3,12,13,14,25,26,27])),(10,(kpL [3,7,12,13,14,25,26,27,33,34,35])),(15,(kpL [3,12,13,14,25,26,27,46,47,48]))] [(3,1,(kpL [3])),(7,3,(kpL [3,12,13,14])),(10,5,(kpL [3,7,12,13,14,25,26,27])),(15,7,(kpL [3,12,13,14,25,26,27]))] [(10,spW zNo zOo (ztH zp) default zME zMJ),(15,spW zN9 z4x (ztp zp) default zMH zMm),(7,spW zPC z4x (zvc zp) default zOq zOi),(3,spW zPu z4x (zvf zp) default zN0 zOz)] []
theorem zMe (zp:yB->Bool×Int):zJ (zks zp) (lp (body f160) 2):=zq (id:=10) (hl:=rfl)
theorem zNb (zp:yB->Bool×Int):zJ (zks zp) (lp (body f160) 3):=zq (id:=15) (hl:=rfl)
theorem zN1 (zp:yB->Bool×Int):zJ (zks zp) (lp (body f160) 1):=zq (id:=7) (hl:=rfl)
theorem zOD (zp:yB->Bool×Int):zJ (zks zp) (lp (body f160) 0):=zq (id:=3) (hl:=rfl)
def zDg (zp:yB->Bool×Int) (a:yB):Wy0 (Int):=.bn (zCi zp (Int.toNat 0+a.length+(Int.ofNat a.length).toNat +Int.toNat 0+1) 0 a (Int.ofNat a.length) 0) λr10=>.k r10
def zth (zp:yB->Bool×Int) (a:yB):=(zDg zp a).fin default
theorem zKO (zp:yB->Bool×Int) (zR8:SdP 160 (zog zp)):SdP 160 (zog (zth zp)):=
 sT (cx':=(zks zp)) (zi ⟨zR8,trivial⟩) call160 func160 (lOK (aC (zOD zp) (aC (zN1 zp) (aC (zMe zp) (aC (zNb zp) aN)))))
def z7M:Nat->(yB->Bool×Int)
 | 0=>λ_=>(false,default)
 | n+1=>zth (z7M n)
def zkP (n:Nat):yB->Bool×Int:=z7M n
theorem zQ6 (n:Nat):zkP (n+1)=zth (zkP n):=rfl
theorem z03:∀ n,SdP 160 (zog (zkP n))
 | 0=>zbk call160 (λ_=>rfl)
 | n+1=>by
  have ih:=z03 n;exact zKO _ (ih)
def zBB:yB->Bool×Int:=zkP 1000
def zCR:Ab.Spec ty:=zog zBB
theorem zOs:SdP 160 zCR:=(z03 1000)
abbrev znn:=Int×Unit×Int×yB×Int×Int×yC×Int×Int×yA×Int×Int×Unit
abbrev zA4:=Int×Int×yB×Int×Int×yC×Int×Int×Fc
abbrev zna:=Int×Int×yB×Int×Int×yC×Int×Int×yD×Int×Int×Unit
abbrev zAL:=Int×Int×yB×Int×Int×yC×Int×Int
abbrev znp:=Int×yB×Int×Int×yC×Int×Int×Unit
abbrev zAE:=Int×yB×Int×Int
abbrev zm5:=Int×yB×Int×Int×Unit
def zhF (zk:yB->Bool×Int) (n_:Int) (inner:Int) (t13:yB) (t14:Int) (t15:Int) (t20:yC) (t21:Int) (t22:Int) (t32:yA) (t33:Int) (t34:Int) (f:Fc):Wy znn (Fc×Unit) zA4:=.i (decide (t34<t33)) (.i (decide (0<=t34)&&decide (t34<Int.ofNat t32.length)) (.bn (zk (t32.getD t34.toNat default)) λr0=>.h (n_,(),(if r0>inner then r0 else inner),t13,t14,t15,t20,t21,t22,t32,t33,(IntKind.i64.wrap (t34+1)),()) (f,())) .d) (.k (n_,inner,t13,t14,t15,t20,t21,t22,f))
def zqh (zk:yB->Bool×Int) (x:znn) (y:Fc×Unit):=zhF zk x.1 x.2.2.1 x.2.2.2.1 x.2.2.2.2.1 x.2.2.2.2.2.1 x.2.2.2.2.2.2.1 x.2.2.2.2.2.2.2.1 x.2.2.2.2.2.2.2.2.1 x.2.2.2.2.2.2.2.2.2.1 x.2.2.2.2.2.2.2.2.2.2.1 x.2.2.2.2.2.2.2.2.2.2.2.1 y.1
def zxV (zk:yB->Bool×Int) (n:Nat) (n_:Int) (inner:Int) (t13:yB) (t14:Int) (t15:Int) (t20:yC) (t21:Int) (t22:Int) (t32:yA) (t33:Int) (t34:Int) (f:Fc):=zA (zqh zk) default n (n_,(),inner,t13,t14,t15,t20,t21,t22,t32,t33,t34,()) (f,())
def zHs (r:zA4):LTree ty:=.done (.exit 4) [.lit (.int .i64 r.1),.ptr 256 0,.lit (.int .i64 r.2.1),.sl 107 r.2.2.1,.lit (.int .i64 r.2.2.2.1),.lit (.int .i64 r.2.2.2.2.1),.sl 145 r.2.2.2.2.2.1,.lit (.int .i64 r.2.2.2.2.2.2.1),.lit (.int .i64 r.2.2.2.2.2.2.2.1)] [.box (base.enc 145 r.2.2.2.2.2.2.2.2) false]
def zJI:LL ty znn:=za zj (za (zdH 256 0) (za zj (za (lSl 107) (za zj (za zj (za (lSl 145) (za zj (za zj (za (lSl 51) (za zj (za zj zm)))))))))))
def zhJ (zk:yB->Bool×Int) (n_:Int) (inner:Int) (t13:yB) (t14:Int) (t15:Int) (t20:yC) (t21:Int) (t22:Int) (t45:yD) (t46:Int) (t47:Int):Wy zna Unit zAL:=.i (decide (t47<t46)) (.i (decide (0<=t47)&&decide (t47<Int.ofNat t45.length)) (.bn (zk (t45.getD t47.toNat default).Ann) λr2=>.h (n_,(if r2>inner then r2 else inner),t13,t14,t15,t20,t21,t22,t45,t46,(IntKind.i64.wrap (t47+1)),()) ()) .d) (.k (n_,inner,t13,t14,t15,t20,t21,t22))
def zpO (zk:yB->Bool×Int) (x:zna) (y:Unit):=zhJ zk x.1 x.2.1 x.2.2.1 x.2.2.2.1 x.2.2.2.2.1 x.2.2.2.2.2.1 x.2.2.2.2.2.2.1 x.2.2.2.2.2.2.2.1 x.2.2.2.2.2.2.2.2.1 x.2.2.2.2.2.2.2.2.2.1 x.2.2.2.2.2.2.2.2.2.2.1
def zxj (zk:yB->Bool×Int) (n:Nat) (n_:Int) (inner:Int) (t13:yB) (t14:Int) (t15:Int) (t20:yC) (t21:Int) (t22:Int) (t45:yD) (t46:Int) (t47:Int):=zA (zpO zk) default n (n_,inner,t13,t14,t15,t20,t21,t22,t45,t46,t47,()) ()
def zHg (r:zAL):LTree ty:=.done (.exit 6) [.lit (.int .i64 r.1),.lit (.int .i64 r.2.1),.sl 107 r.2.2.1,.lit (.int .i64 r.2.2.2.1),.lit (.int .i64 r.2.2.2.2.1),.sl 145 r.2.2.2.2.2.1,.lit (.int .i64 r.2.2.2.2.2.2.1),.lit (.int .i64 r.2.2.2.2.2.2.2)] []
def zJr:LL ty zna:=za zj (za zj (za (lSl 107) (za zj (za zj (za (lSl 145) (za zj (za zj (za (lSl 169) (za zj (za zj zm))))))))))
def zik (zk:yB->Bool×Int) (n_:Int) (t13:yB) (t14:Int) (t15:Int) (t20:yC) (t21:Int) (t22:Int):Wy znp Unit zAE:=.i (decide (t22<t21)) (.i (decide (0<=t22)&&decide (t22<Int.ofNat t20.length)) (.i ((t20.getD t22.toNat default).At.Kind==0) (.h (n_,t13,t14,t15,t20,t21,(IntKind.i64.wrap (t22+1)),()) ()) (.bn (zxV zk (n_.toNat +Int.toNat 0+t13.length+t14.toNat +t15.toNat +t20.length+t21.toNat +t22.toNat +(t20.getD t22.toNat default).At.Ag.length+(Int.ofNat (t20.getD t22.toNat default).At.Ag.length).toNat +Int.toNat 0+(t20.getD t22.toNat default).At.Ag.length+(t20.getD t22.toNat default).At.Items.length+1) n_ 0 t13 t14 t15 t20 t21 t22 (t20.getD t22.toNat default).At.Ag (Int.ofNat (t20.getD t22.toNat default).At.Ag.length) 0 (FO.mk (At.mk (t20.getD t22.toNat default).At.Kind (t20.getD t22.toNat default).At.Row (t20.getD t22.toNat default).At.Ag (t20.getD t22.toNat default).At.Func (t20.getD t22.toNat default).At.Items (t20.getD t22.toNat default).At.Op (t20.getD t22.toNat default).At.Bd) (t20.getD t22.toNat default).Exp)) λr5=>.bn (zxj zk (r5.1.toNat +r5.2.1.toNat +r5.2.2.1.length+r5.2.2.2.1.toNat +r5.2.2.2.2.1.toNat +r5.2.2.2.2.2.1.length+r5.2.2.2.2.2.2.1.toNat +r5.2.2.2.2.2.2.2.1.toNat +r5.2.2.2.2.2.2.2.2.At.Items.length+(Int.ofNat r5.2.2.2.2.2.2.2.2.At.Items.length).toNat +Int.toNat 0+1) r5.1 r5.2.1 r5.2.2.1 r5.2.2.2.1 r5.2.2.2.2.1 r5.2.2.2.2.2.1 r5.2.2.2.2.2.2.1 r5.2.2.2.2.2.2.2.1 r5.2.2.2.2.2.2.2.2.At.Items (Int.ofNat r5.2.2.2.2.2.2.2.2.At.Items.length) 0) λr4=>.h ((if IntKind.i64.wrap (1+r4.2.1)>r4.1 then IntKind.i64.wrap (1+r4.2.1) else r4.1),(r4.2.2.1),(r4.2.2.2.1),(r4.2.2.2.2.1),(r4.2.2.2.2.2.1),(r4.2.2.2.2.2.2.1),(IntKind.i64.wrap (r4.2.2.2.2.2.2.2+1)),()) ())) .d) (.k (n_,t13,t14,t15))
def zre (zk:yB->Bool×Int) (x:znp) (y:Unit):=zik zk x.1 x.2.1 x.2.2.1 x.2.2.2.1 x.2.2.2.2.1 x.2.2.2.2.2.1 x.2.2.2.2.2.2.1
def zyO (zk:yB->Bool×Int) (n:Nat) (n_:Int) (t13:yB) (t14:Int) (t15:Int) (t20:yC) (t21:Int) (t22:Int):=zA (zre zk) default n (n_,t13,t14,t15,t20,t21,t22,()) ()
def zJ3 (r:zAE):LTree ty:=.done (.exit 2) [.lit (.int .i64 r.1),.sl 107 r.2.1,.lit (.int .i64 r.2.2.1),.lit (.int .i64 r.2.2.2)] []
def zKT:LL ty znp:=za zj (za (lSl 107) (za zj (za zj (za (lSl 145) (za zj (za zj zm))))))
def zit (zk:yB->Bool×Int) (n_:Int) (t13:yB) (t14:Int) (t15:Int):Wy zm5 Unit (Int):=.i (decide (t15<t14)) (.i (decide (0<=t15)&&decide (t15<Int.ofNat t13.length)) (.bn (zyO zk (n_.toNat +t13.length+t14.toNat +t15.toNat +(t13.getD t15.toNat default).Fs.length+(Int.ofNat (t13.getD t15.toNat default).Fs.length).toNat +Int.toNat 0+1) n_ t13 t14 t15 (t13.getD t15.toNat default).Fs (Int.ofNat (t13.getD t15.toNat default).Fs.length) 0) λr8=>.h ((r8.1),(r8.2.1),(r8.2.2.1),(IntKind.i64.wrap (r8.2.2.2+1)),()) ()) .d) (.k n_)
def zrd (zk:yB->Bool×Int) (x:zm5) (y:Unit):=zit zk x.1 x.2.1 x.2.2.1 x.2.2.2.1
def zyF (zk:yB->Bool×Int) (n:Nat) (n_:Int) (t13:yB) (t14:Int) (t15:Int):=zA (zrd zk) default n (n_,t13,t14,t15,()) ()
def zK3:LL ty zm5:=za zj (za (lSl 107) (za zj (za zj zm)))
def zHy (x:znn) (y:Fc×Unit):Nat:=(Int.toNat x.1+Int.toNat x.2.2.1+x.2.2.2.1.length+Int.toNat x.2.2.2.2.1+Int.toNat x.2.2.2.2.2.1+x.2.2.2.2.2.2.1.length+Int.toNat x.2.2.2.2.2.2.2.1+Int.toNat x.2.2.2.2.2.2.2.2.1+x.2.2.2.2.2.2.2.2.2.1.length+Int.toNat x.2.2.2.2.2.2.2.2.2.2.1+Int.toNat x.2.2.2.2.2.2.2.2.2.2.2.1+y.1.At.Ag.length+y.1.At.Items.length+1)
def zHN (x:zna) (y:Unit):Nat:=(Int.toNat x.1+Int.toNat x.2.1+x.2.2.1.length+Int.toNat x.2.2.2.1+Int.toNat x.2.2.2.2.1+x.2.2.2.2.2.1.length+Int.toNat x.2.2.2.2.2.2.1+Int.toNat x.2.2.2.2.2.2.2.1+x.2.2.2.2.2.2.2.2.1.length+Int.toNat x.2.2.2.2.2.2.2.2.2.1+Int.toNat x.2.2.2.2.2.2.2.2.2.2.1+1)
def zIk (x:znp) (y:Unit):Nat:=(Int.toNat x.1+x.2.1.length+Int.toNat x.2.2.1+Int.toNat x.2.2.2.1+x.2.2.2.2.1.length+Int.toNat x.2.2.2.2.2.1+Int.toNat x.2.2.2.2.2.2.1+1)
def zIr (x:zm5) (y:Unit):Nat:=(Int.toNat x.1+x.2.1.length+Int.toNat x.2.2.1+Int.toNat x.2.2.2.1+1)
def zir (zk:yB->Bool×Int):=zb1 base 64 [(159,(zog zk))] [] [(3,(kpL [3,13,14,15])),(6,(kpL [3,13,14,15,20,21,22])),(11,(kpL [3,7,8,13,14,15,20,21,22,32,33,34])),(16,(kpL [3,8,13,14,15,20,21,22,45,46,47]))] [(3,1,(kpL [3])),(6,3,(kpL [3,13,14,15])),(11,5,(kpL [3,7,8,13,14,15,20,21,22])),(16,7,(kpL [3,8,13,14,15,20,21,22]))] [(11,spW zJI zOo (zqh zk) default zHs zHy),(16,spW zJr z4x (zpO zk) default zHg zHN),(6,spW zKT z4x (zre zk) default zJ3 zIk),(3,spW zK3 z4x (zrd zk) default zN0 zIr)] []
theorem zHo (zk:yB->Bool×Int):zJ (zir zk) (lp (body f159) 2):=zq (id:=11) (hl:=rfl)
theorem zHi (zk:yB->Bool×Int):zJ (zir zk) (lp (body f159) 3):=zq (id:=16) (hl:=rfl)
theorem zJd (zk:yB->Bool×Int):zJ (zir zk) (lp (body f159) 1):=zq (id:=6) (hl:=rfl)
theorem zJ6 (zk:yB->Bool×Int):zJ (zir zk) (lp (body f159) 0):=zq (id:=3) (hl:=rfl)
def zzC (zk:yB->Bool×Int) (a:yB):Wy0 (Int):=.bn (zyF zk (Int.toNat 0+a.length+(Int.ofNat a.length).toNat +Int.toNat 0+1) 0 a (Int.ofNat a.length) 0) λr10=>.k r10
def zoD (zk:yB->Bool×Int) (a:yB):=(zzC zk a).fin default
theorem zF7 (zk:yB->Bool×Int) (zMG:SdP 159 (zog zk)):SdP 159 (zog (zoD zk)):=
 sT (cx':=(zir zk)) (zi ⟨zMG,trivial⟩) call159 func159 (lOK (aC (zJ6 zk) (aC (zJd zk) (aC (zHo zk) (aC (zHi zk) aN)))))
def zYn:Nat->(yB->Bool×Int)
 | 0=>λ_=>(false,default)
 | n+1=>zoD (zYn n)
def zfW (n:Nat):yB->Bool×Int:=zYn n
theorem zKK (n:Nat):zfW (n+1)=zoD (zfW n):=rfl
theorem zRO:∀ n,SdP 159 (zog (zfW n))
 | 0=>zbk call159 (λ_=>rfl)
 | n+1=>by
  have ih:=zRO n;exact zF7 _ (ih)
def zxK:yB->Bool×Int:=zfW 1000
def zyE:Ab.Spec ty:=zog zxK
theorem zIS:SdP 159 zyE:=(zRO 1000)
def zGb:=zbx base 13 []
def zw6 (f:Fc):Wy0 (Bool):=.i (decide (f.Exp>64)) (.k true) (.k (decide (Int.ofNat f.At.Items.length>1024)))
def zfL (f:Fc):=(zw6 f).fin default
def zHl:AL base (Fc×Unit):=zd (ze (zcd 145)) zt
def zih:=zh zHl λx=>((zfL x.1).1,zTe (zfL x.1).2)
theorem zkZ:SdP 164 zih:=
 sT (cx':=zGb) (zi trivial) call164 func164 (lOK aN)
abbrev zd5:=yC×Unit×Int×Int×Unit
def ziT (s:yC) (t7:Int) (t8:Int):Wy zd5 Unit (Int⊕Unit):=.i (decide (t8<t7)) (.i (decide (0<=t8)&&decide (t8<Int.ofNat s.length)) (.bn (zfL (FO.mk (At.mk (s.getD t8.toNat default).At.Kind (s.getD t8.toNat default).At.Row (s.getD t8.toNat default).At.Ag (s.getD t8.toNat default).At.Func (s.getD t8.toNat default).At.Items (s.getD t8.toNat default).At.Op (s.getD t8.toNat default).At.Bd) (s.getD t8.toNat default).Exp)) λr0=>.i (r0) (.k (.inl t8)) (.h (s,(),t7,(IntKind.i64.wrap (t8+1)),()) ())) .d) (.k (.inr ()))
def zdm (x:zd5) (y:Unit):=ziT x.1 x.2.2.1 x.2.2.2.1
def ziM (n:Nat) (s:yC) (t7:Int) (t8:Int):=zA (zdm) (.inl default) n (s,(),t7,t8,()) ()
def zrc (r:Int⊕Unit):LTree ty:=.ite (isL r) (.done .ret [.lit (.int .i64 (getL r))] []) (.done (.exit 0) [] [])
def zsj:LL ty zd5:=za (lSl 145) (za (lFn 164 (zm)) (za zj (za zj zm)))
def zq2 (x:zd5) (y:Unit):Nat:=(x.1.length+Int.toNat x.2.2.1+Int.toNat x.2.2.2.1+1)
def ziQ:=zb1 base 19 [(164,zih)] [] [(2,(kpL [0,1,7,8]))] [(2,1,[]),(2,0,(kpL [4]))] [(2,spW zsj z4x (zdm) (.inl default) zrc zq2)] []
theorem zq0:zJ ziQ (lp (body f222) 0):=zq (id:=2) (hl:=rfl)
def zi2 (s:yC):Wy0 (Int):=.bn (ziM (s.length+(Int.ofNat s.length).toNat +Int.toNat 0+1) s (Int.ofNat s.length) 0) λr2=>.i (isL r2) (.k (getL r2)) (.k (-1:Int))
def zcG (s:yC):=(zi2 s).fin default
def zsP:AL base (yC×Unit×Unit):=zd (ze (vSl 145)) (zd (ze (vFn 164 zc1)) zt)
def zh4:=zh zsP λx=>((zcG x.1).1,zMl (zcG x.1).2)
theorem zp0:SdP 222 zh4:=
 sT (cx':=ziQ) (zi ⟨zkZ,trivial⟩) call222 func222 (lOK (aC zq0 aN))
def zpZ:=zbx base 9 [(164,zih),(222,zh4)]
def zhY (s:yC):Wy0 (Bool):=.bn (zcG s) λr0=>.k (decide (r0≥0))
def zcp (s:yC):=(zhY s).fin default
def zg0:=zh zsP λx=>((zcp x.1).1,zTe (zcp x.1).2)
theorem zn6:SdP 163 zg0:=
 sT (cx':=zpZ) (zi ⟨zkZ,zp0,trivial⟩) call163 func163 (lOK aN)
def zKI:=zbx base 12 [(163,zg0),(164,zih)]
def zzA (t:Term):Wy0 (Bool):=.i (decide (Int.ofNat t.Fs.length>64)) (.k true) (.bn (zcp t.Fs) λr0=>.k r0)
def zkD (t:Term):=(zzA t).fin default
def zMV:AL base (Term×Unit):=zd (ze (zcd 107)) zt
def zjO:=zh zMV λx=>((zkD x.1).1,zTe (zkD x.1).2)
theorem znD:SdP 162 zjO:=
 sT (cx':=zKI) (zi ⟨zn6,zkZ,trivial⟩) call162 func162 (lOK aN)
abbrev zdV:=yB×Unit×Int×Int×Unit
def zrn (s:yB) (t7:Int) (t8:Int):Wy zdV Unit (Int⊕Unit):=.i (decide (t8<t7)) (.i (decide (0<=t8)&&decide (t8<Int.ofNat s.length)) (.bn (zkD (s.getD t8.toNat default)) λr0=>.i (r0) (.k (.inl t8)) (.h (s,(),t7,(IntKind.i64.wrap (t8+1)),()) ())) .d) (.k (.inr ()))
def ziq (x:zdV) (y:Unit):=zrn x.1 x.2.2.1 x.2.2.2.1
def zrr (n:Nat) (s:yB) (t7:Int) (t8:Int):=zA (ziq) (.inl default) n (s,(),t7,t8,()) ()
def zrl:LL ty zdV:=za (lSl 107) (za (lFn 162 (zm)) (za zj (za zj zm)))
def zqA (x:zdV) (y:Unit):Nat:=(x.1.length+Int.toNat x.2.2.1+Int.toNat x.2.2.2.1+1)
def ziu:=zb1 base 19 [(162,zjO)] [] [(2,(kpL [0,1,7,8]))] [(2,1,[]),(2,0,(kpL [4]))] [(2,spW zrl z4x (ziq) (.inl default) zrc zqA)] []
theorem zqE:zJ ziu (lp (body f221) 0):=zq (id:=2) (hl:=rfl)
def zr2 (s:yB):Wy0 (Int):=.bn (zrr (s.length+(Int.ofNat s.length).toNat +Int.toNat 0+1) s (Int.ofNat s.length) 0) λr2=>.i (isL r2) (.k (getL r2)) (.k (-1:Int))
def zdB (s:yB):=(zr2 s).fin default
def zsc:AL base (yB×Unit×Unit):=zd (ze (vSl 107)) (zd (ze (vFn 162 zc1)) zt)
def zhw:=zh zsc λx=>((zdB x.1).1,zMl (zdB x.1).2)
theorem zpA:SdP 221 zhw:=
 sT (cx':=ziu) (zi ⟨znD,trivial⟩) call221 func221 (lOK (aC zqE aN))
def zps:=zbx base 9 [(162,zjO),(221,zhw)]
def zhx (s:yB):Wy0 (Bool):=.bn (zdB s) λr0=>.k (decide (r0≥0))
def zch (s:yB):=(zhx s).fin default
def zgB:=zh zsc λx=>((zch x.1).1,zTe (zch x.1).2)
theorem znR:SdP 161 zgB:=
 sT (cx':=zps) (zi ⟨znD,zpA,trivial⟩) call161 func161 (lOK aN)
def zQF:=zbx base 19 [(159,zyE),(160,zCR),(161,zgB),(162,zjO)]
def zDo (a:yB):Wy0 (Bool):=.i (decide (Int.ofNat a.length>512)) (.k false) (.bn (zxK a) λr2=>.i (decide (r2>8)) (.k false) (.bn (zBB a) λr1=>.i (decide (r1>4096)) (.k false) (.bn (zch a) λr0=>.k (!r0))))
def zkN (a:yB):=(zDo a).fin default
def zsx:=zh zUU λx=>((zkN x.1).1,zTe (zkN x.1).2)
theorem zyN:SdP 103 zsx:=
 sT (cx':=zQF) (zi ⟨zIS,zOs,znR,znD,trivial⟩) call103 func103 (lOK aN)
abbrev zqv:=yB×Unit×yB×Int×Int×yC×Int×Int×Unit
abbrev zC9:=Bool⊕(yB×yB×Int×Int)
abbrev zqy:=yB×yB×Int×Int×Unit
def zjA (zB:At->Bool×Bool) (a:yB) (t10:yB) (t11:Int) (t12:Int) (t40:yC) (t41:Int) (t42:Int) (t:Term):Wy zqv (Term×Unit) zC9:=.i (decide (t42<t41)) (.i (decide (0<=t42)&&decide (t42<Int.ofNat t40.length)) (.i (decide ((t40.getD t42.toNat default).Exp<1)) (.k (.inl false)) (.bn (zff (At.mk (t40.getD t42.toNat default).At.Kind (t40.getD t42.toNat default).At.Row (t40.getD t42.toNat default).At.Ag (t40.getD t42.toNat default).At.Func (t40.getD t42.toNat default).At.Items (t40.getD t42.toNat default).At.Op (t40.getD t42.toNat default).At.Bd)) λr6=>.i (r6) (.i ((t40.getD t42.toNat default).Exp != 1) (.k (.inl false)) (.i (decide (t42>0)) (.i (decide (0<=IntKind.i64.wrap (t42 - 1))&&decide (IntKind.i64.wrap (t42 - 1)<Int.ofNat t.Fs.length)) (.bn (ziw (At.mk (t.Fs.getD (IntKind.i64.wrap (t42 - 1)).toNat default).At.Kind (t.Fs.getD (IntKind.i64.wrap (t42 - 1)).toNat default).At.Row (t.Fs.getD (IntKind.i64.wrap (t42 - 1)).toNat default).At.Ag (t.Fs.getD (IntKind.i64.wrap (t42 - 1)).toNat default).At.Func (t.Fs.getD (IntKind.i64.wrap (t42 - 1)).toNat default).At.Items (t.Fs.getD (IntKind.i64.wrap (t42 - 1)).toNat default).At.Op (t.Fs.getD (IntKind.i64.wrap (t42 - 1)).toNat default).At.Bd) (At.mk (t40.getD t42.toNat default).At.Kind (t40.getD t42.toNat default).At.Row (t40.getD t42.toNat default).At.Ag (t40.getD t42.toNat default).At.Func (t40.getD t42.toNat default).At.Items (t40.getD t42.toNat default).At.Op (t40.getD t42.toNat default).At.Bd)) λr1=>.i (decide (r1≥0)) (.k (.inl false)) (.bn (zB (At.mk (t40.getD t42.toNat default).At.Kind (t40.getD t42.toNat default).At.Row (t40.getD t42.toNat default).At.Ag (t40.getD t42.toNat default).At.Func (t40.getD t42.toNat default).At.Items (t40.getD t42.toNat default).At.Op (t40.getD t42.toNat default).At.Bd)) λr0=>.i (!r0) (.k (.inl false)) (.h (a,(),t10,t11,t12,t40,t41,(IntKind.i64.wrap (t42+1)),()) (t,())))) .d) (.bn (zB (At.mk (t40.getD t42.toNat default).At.Kind (t40.getD t42.toNat default).At.Row (t40.getD t42.toNat default).At.Ag (t40.getD t42.toNat default).At.Func (t40.getD t42.toNat default).At.Items (t40.getD t42.toNat default).At.Op (t40.getD t42.toNat default).At.Bd)) λr2=>.i (!r2) (.k (.inl false)) (.h (a,(),t10,t11,t12,t40,t41,(IntKind.i64.wrap (t42+1)),()) (t,()))))) (.i (decide (t42>0)) (.i (decide (0<=IntKind.i64.wrap (t42 - 1))&&decide (IntKind.i64.wrap (t42 - 1)<Int.ofNat t.Fs.length)) (.bn (ziw (At.mk (t.Fs.getD (IntKind.i64.wrap (t42 - 1)).toNat default).At.Kind (t.Fs.getD (IntKind.i64.wrap (t42 - 1)).toNat default).At.Row (t.Fs.getD (IntKind.i64.wrap (t42 - 1)).toNat default).At.Ag (t.Fs.getD (IntKind.i64.wrap (t42 - 1)).toNat default).At.Func (t.Fs.getD (IntKind.i64.wrap (t42 - 1)).toNat default).At.Items (t.Fs.getD (IntKind.i64.wrap (t42 - 1)).toNat default).At.Op (t.Fs.getD (IntKind.i64.wrap (t42 - 1)).toNat default).At.Bd) (At.mk (t40.getD t42.toNat default).At.Kind (t40.getD t42.toNat default).At.Row (t40.getD t42.toNat default).At.Ag (t40.getD t42.toNat default).At.Func (t40.getD t42.toNat default).At.Items (t40.getD t42.toNat default).At.Op (t40.getD t42.toNat default).At.Bd)) λr4=>.i (decide (r4≥0)) (.k (.inl false)) (.bn (zB (At.mk (t40.getD t42.toNat default).At.Kind (t40.getD t42.toNat default).At.Row (t40.getD t42.toNat default).At.Ag (t40.getD t42.toNat default).At.Func (t40.getD t42.toNat default).At.Items (t40.getD t42.toNat default).At.Op (t40.getD t42.toNat default).At.Bd)) λr3=>.i (!r3) (.k (.inl false)) (.h (a,(),t10,t11,t12,t40,t41,(IntKind.i64.wrap (t42+1)),()) (t,())))) .d) (.bn (zB (At.mk (t40.getD t42.toNat default).At.Kind (t40.getD t42.toNat default).At.Row (t40.getD t42.toNat default).At.Ag (t40.getD t42.toNat default).At.Func (t40.getD t42.toNat default).At.Items (t40.getD t42.toNat default).At.Op (t40.getD t42.toNat default).At.Bd)) λr5=>.i (!r5) (.k (.inl false)) (.h (a,(),t10,t11,t12,t40,t41,(IntKind.i64.wrap (t42+1)),()) (t,())))))) .d) (.k (.inr (a,t10,t11,t12)))
def ztN (zB:At->Bool×Bool) (x:zqv) (y:Term×Unit):=zjA zB x.1 x.2.2.1 x.2.2.2.1 x.2.2.2.2.1 x.2.2.2.2.2.1 x.2.2.2.2.2.2.1 x.2.2.2.2.2.2.2.1 y.1
def ztX (zB:At->Bool×Bool) (n:Nat) (a:yB) (t10:yB) (t11:Int) (t12:Int) (t40:yC) (t41:Int) (t42:Int) (t:Term):=zA (ztN zB) (.inl default) n (a,(),t10,t11,t12,t40,t41,t42,()) (t,())
def zMu (r:zC9):LTree ty:=.ite (isL r) (.done .ret [.lit (.bool (getL r))] []) (.done (.exit 2) [.sl 107 (getR r).1,.sl 107 (getR r).2.1,.lit (.int .i64 (getR r).2.2.1),.lit (.int .i64 (getR r).2.2.2)] [])
def zNk:LL ty zqv:=za (lSl 107) (za (zdH 340 0) (za (lSl 107) (za zj (za zj (za (lSl 145) (za zj (za zj zm)))))))
def zON:BL ty (Term×Unit):=zfj (zgi (λx=>(⟨x.1,x.2.1⟩:Term)) (λx=>(x.Cf,x.Fs,())) (λ_=>rfl) (za (zS .i64) (za (lSl 145) zm))) false (zbg)
def zjF (zB:At->Bool×Bool) (a:yB) (t10:yB) (t11:Int) (t12:Int):Wy zqy Unit (Bool⊕Unit):=.i (decide (t12<t11)) (.i (decide (0<=t12)&&decide (t12<Int.ofNat t10.length)) (.i (decide ((t10.getD t12.toNat default).Cf<1)) (.k (.inl false)) (.i (decide ((t10.getD t12.toNat default).Cf>1152921504606846976)) (.k (.inl false)) (.i (decide (t12>0)) (.i (decide (0<=IntKind.i64.wrap (t12 - 1))&&decide (IntKind.i64.wrap (t12 - 1)<Int.ofNat a.length)) (.bn (zbV (a.getD (IntKind.i64.wrap (t12 - 1)).toNat default) (t10.getD t12.toNat default)) λr15=>.i (decide (r15≥0)) (.k (.inl false)) (.bn (ztX zB (a.length+t10.length+t11.toNat +t12.toNat +(t10.getD t12.toNat default).Fs.length+(Int.ofNat (t10.getD t12.toNat default).Fs.length).toNat +Int.toNat 0+(t10.getD t12.toNat default).Fs.length+1) a t10 t11 t12 (t10.getD t12.toNat default).Fs (Int.ofNat (t10.getD t12.toNat default).Fs.length) 0 (t10.getD t12.toNat default)) λr14=>.i (isL r14) (.k (.inl (getL r14))) (.h ((getR r14).1,(getR r14).2.1,(getR r14).2.2.1,(IntKind.i64.wrap ((getR r14).2.2.2+1)),()) ()))) .d) (.bn (ztX zB (a.length+t10.length+t11.toNat +t12.toNat +(t10.getD t12.toNat default).Fs.length+(Int.ofNat (t10.getD t12.toNat default).Fs.length).toNat +Int.toNat 0+(t10.getD t12.toNat default).Fs.length+1) a t10 t11 t12 (t10.getD t12.toNat default).Fs (Int.ofNat (t10.getD t12.toNat default).Fs.length) 0 (t10.getD t12.toNat default)) λr16=>.i (isL r16) (.k (.inl (getL r16))) (.h ((getR r16).1,(getR r16).2.1,(getR r16).2.2.1,(IntKind.i64.wrap ((getR r16).2.2.2+1)),()) ()))))) .d) (.k (.inr ()))
def ztL (zB:At->Bool×Bool) (x:zqy) (y:Unit):=zjF zB x.1 x.2.1 x.2.2.1 x.2.2.2.1
def zA7 (zB:At->Bool×Bool) (n:Nat) (a:yB) (t10:yB) (t11:Int) (t12:Int):=zA (ztL zB) (.inl default) n (a,t10,t11,t12,()) ()
def zOT:LL ty zqy:=za (lSl 107) (za (lSl 107) (za zj (za zj zm)))
def zMt (x:zqv) (y:Term×Unit):Nat:=(x.1.length+x.2.2.1.length+Int.toNat x.2.2.2.1+Int.toNat x.2.2.2.2.1+x.2.2.2.2.2.1.length+Int.toNat x.2.2.2.2.2.2.1+Int.toNat x.2.2.2.2.2.2.2.1+y.1.Fs.length+1)
def zM1 (x:zqy) (y:Unit):Nat:=(x.1.length+x.2.1.length+Int.toNat x.2.2.1+Int.toNat x.2.2.2.1+1)
def zt4 (zB:At->Bool×Bool):=zb1 base 85 [(103,zsx),(104,zic),(105,zjg),(106,zlJ),(107,(zl8 zB))] [] [(4,(kpL [0,10,11,12])),(9,(kpL [0,4,10,11,12,40,41,42]))] [(4,1,[]),(4,0,(kpL [2])),(9,3,(kpL [0,10,11,12])),(9,0,(kpL [2]))] [(9,spW zNk zON (ztN zB) (.inl default) zMu zMt),(4,spW zOT z4x (ztL zB) (.inl default) zmp zM1)] []
theorem zMd (zB:At->Bool×Bool):zJ (zt4 zB) (lp (body f52) 1):=zq (id:=9) (hl:=rfl)
theorem zMw (zB:At->Bool×Bool):zJ (zt4 zB) (lp (body f52) 0):=zq (id:=4) (hl:=rfl)
def zB3 (zB:At->Bool×Bool) (a:yB):Wy0 (Bool):=.bn (zkN a) λr21=>.i (!r21) (.k false) (.bn (zA7 zB (a.length+a.length+(Int.ofNat a.length).toNat +Int.toNat 0+1) a a (Int.ofNat a.length) 0) λr20=>.i (isL r20) (.k (getL r20)) (.k true))
def zmJ (zB:At->Bool×Bool) (a:yB):=(zB3 zB a).fin default
theorem zJJ (zB:At->Bool×Bool) (zJ7:SdP 107 (zl8 zB)):SdP 52 (zhC (zmJ zB)):=
 sT (cx':=(zt4 zB)) (zi ⟨zyN,zk5,zmu,zs5,zJ7,trivial⟩) call52 func52 (lOK (aC (zMw zB) (aC (zMd zB) aN)))
def z1Q:=zbx base 36 []
def zRF (v:Value):Wy0 (Bool):=.i (v.Kind==0) (.k (v.Text.toList==(ByteArray.mk #[]).toList)) (.i (v.Kind==1) (.i (v.Int==0) (.k (decide (Int.ofNat v.Text.size<=255))) (.k false)) (.i (v.Kind==2) (.i (v.Int==0) (.k (v.Text.toList==(ByteArray.mk #[]).toList)) (.i (v.Int==1) (.k (v.Text.toList==(ByteArray.mk #[]).toList)) (.k false))) (.k false)))
def zo9 (v:Value):=(zRF v).fin default
def z4C:AL base (Value×Unit):=zd (ze (zcd 79)) zt
def zpG:=zh z4C λx=>((zo9 x.1).1,zTe (zo9 x.1).2)
theorem zte:SdP 91 zpG:=
 sT (cx':=z1Q) (zi trivial) call91 func91 (lOK aN)
def zJZ:=zbx base 27 [(91,zpG)]
def zyP (w:Wd) (p1:Value) (p2:Int):Wy0 (Bool):=.bn (zo9 w.Value) λr0=>.i (!r0) (.k true) (.i (w.Value.Kind != p1.Kind) (.k true) (.i (p2==0) (.k (w.Value.Int != 1)) (.k false)))
def zhc (w:Wd) (p1:Value) (p2:Int):=(zyP w p1 p2).fin default
def zKN:AL base (Wd×Value×(Int×Unit)×Unit):=zd (ze (zcd 169)) (zd (ze (zZ8 79)) (zd (ze (z1O (zyl zfx zc1))) zt))
def zjh:=zh zKN λx=>((zhc x.1 x.2.1 x.2.2.1.1).1,zTe (zhc x.1 x.2.1 x.2.2.1.1).2)
theorem zmg:SdP 229 zjh:=
 sT (cx':=zJZ) (zi ⟨zte,trivial⟩) call229 func229 (lOK aN)
abbrev zdt:=yD×(Value×(Int×Unit)×Unit)×Int×Int×Unit
def zpw (s:yD) (f_0:Value) (f_1:Int) (t7:Int) (t8:Int):Wy zdt Unit (Int⊕Unit):=.i (decide (t8<t7)) (.i (decide (0<=t8)&&decide (t8<Int.ofNat s.length)) (.bn (zhc (s.getD t8.toNat default) f_0 f_1) λr0=>.i (r0) (.k (.inl t8)) (.h (s,(f_0,(f_1,()),()),t7,(IntKind.i64.wrap (t8+1)),()) ())) .d) (.k (.inr ()))
def zhm (x:zdt) (y:Unit):=zpw x.1 x.2.1.1 x.2.1.2.1.1 x.2.2.1 x.2.2.2.1
def zpi (n:Nat) (s:yD) (f_0:Value) (f_1:Int) (t7:Int) (t8:Int):=zA (zhm) (.inl default) n (s,(f_0,(f_1,()),()),t7,t8,()) ()
def zpF:LL ty zdt:=za (lSl 169) (za (lFn 229 (za (zFw (zgi (λx=>(⟨x.1,x.2.1,x.2.2.1⟩:Value)) (λx=>(x.Kind,x.Int,x.Text,())) (λ_=>rfl) (za zj (za zj (za znN zm)))) 0) (za (zFw (za zj zm) 0) zm))) (za zj (za zj zm)))
def zo0 (x:zdt) (y:Unit):Nat:=(x.1.length+Int.toNat x.2.1.2.1.1+Int.toNat x.2.2.1+Int.toNat x.2.2.2.1+1)
def zg8:=zb1 base 19 [(229,zjh)] [] [(2,(kpL [0,1,7,8]))] [(2,1,[]),(2,0,(kpL [4]))] [(2,spW zpF z4x (zhm) (.inl default) zrc zo0)] []
theorem zos:zJ zg8 (lp (body f228) 0):=zq (id:=2) (hl:=rfl)
def zqs (s:yD) (f_0:Value) (f_1:Int):Wy0 (Int):=.bn (zpi (s.length+f_1.toNat +(Int.ofNat s.length).toNat +Int.toNat 0+1) s f_0 f_1 (Int.ofNat s.length) 0) λr2=>.i (isL r2) (.k (getL r2)) (.k (-1:Int))
def zdb (s:yD) (f_0:Value) (f_1:Int):=(zqs s f_0 f_1).fin default
def zqj:AL base (yD×(Value×(Int×Unit)×Unit)×Unit):=zd (ze (vSl 169)) (zd (ze (vFn 229 (zyl (zZ8 79) (zyl (z1O (zyl zfx zc1)) zc1)))) zt)
def zgA:=zh zqj λx=>((zdb x.1 x.2.1.1 x.2.1.2.1.1).1,zMl (zdb x.1 x.2.1.1 x.2.1.2.1.1).2)
theorem znM:SdP 228 zgA:=
 sT (cx':=zg8) (zi ⟨zmg,trivial⟩) call228 func228 (lOK (aC zos aN))
def znH:=zbx base 9 [(228,zgA),(229,zjh)]
def zgF (s:yD) (f_0:Value) (f_1:Int):Wy0 (Bool):=.bn (zdb s f_0 f_1) λr0=>.k (decide (r0≥0))
def zbu (s:yD) (f_0:Value) (f_1:Int):=(zgF s f_0 f_1).fin default
def zfH:=zh zqj λx=>((zbu x.1 x.2.1.1 x.2.1.2.1.1).1,zTe (zbu x.1 x.2.1.1 x.2.1.2.1.1).2)
theorem zl6:SdP 178 zfH:=
 sT (cx':=znH) (zi ⟨znM,zmg,trivial⟩) call178 func178 (lOK aN)
def zPf:=zbx base 43 [(91,zpG),(178,zfH),(229,zjh)]
def zCD (fn:Int) (items:yD) (op:Int) (bound:Value):Wy0 (Bool):=.i (decide (fn<0)) (.k false) (.i (decide (fn>3)) (.k false) (.i (decide (op<5)) (.k false) (.i (decide (op>10)) (.k false) (.bn (zo9 bound) λr3=>.i (!r3) (.k false) (.i (fn==0) (.i (bound.Kind != 0) (.k false) (.bn (zbu items bound fn) λr0=>.k (!r0))) (.i (fn==1) (.i (bound.Kind != 0) (.k false) (.bn (zbu items bound fn) λr1=>.k (!r1))) (.bn (zbu items bound fn) λr2=>.k (!r2))))))))
def zjx (fn:Int) (items:yD) (op:Int) (bound:Value):=(zCD fn items op bound).fin default
def zQ9:AL base (Int×yD×Int×Value×Unit):=zd (ze zfx) (zd (ze (vSl 169)) (zd (ze zfx) (zd (ze (zcd 79)) zt)))
def zq3:=zh zQ9 λx=>((zjx x.1 x.2.1 x.2.2.1 x.2.2.2.1).1,zTe (zjx x.1 x.2.1 x.2.2.1 x.2.2.2.1).2)
theorem zxz:SdP 181 zq3:=
 sT (cx':=zPf) (zi ⟨zte,zl6,zmg,trivial⟩) call181 func181 (lOK aN)
def zDZ:=zbx base 7 []
def zut (t:Term):Wy0 (Bool):=.k (Int.ofNat t.Fs.length==0)
def zgY (t:Term):=(zut t).fin default
def zgZ:=zh zMV λx=>((zgY x.1).1,zTe (zgY x.1).2)
theorem zjW:SdP 227 zgZ:=
 sT (cx':=zDZ) (zi trivial) call227 func227 (lOK aN)
abbrev zdT:=yB×Unit×Int×Int×Unit
def zqY (s:yB) (t7:Int) (t8:Int):Wy zdT Unit (Int⊕Unit):=.i (decide (t8<t7)) (.i (decide (0<=t8)&&decide (t8<Int.ofNat s.length)) (.i ((zgY (s.getD t8.toNat default)).2) (.k (.inl t8)) (.h (s,(),t7,(IntKind.i64.wrap (t8+1)),()) ())) .d) (.k (.inr ()))
def zio (x:zdT) (y:Unit):=zqY x.1 x.2.2.1 x.2.2.2.1
def zqW (n:Nat) (s:yB) (t7:Int) (t8:Int):=zA (zio) (.inl default) n (s,(),t7,t8,()) ()
def zq4:LL ty zdT:=za (lSl 107) (za (lFn 227 (zm)) (za zj (za zj zm)))
def zqR (x:zdT) (y:Unit):Nat:=(x.1.length+Int.toNat x.2.2.1+Int.toNat x.2.2.2.1+1)
def ziy:=zb1 base 19 [(227,zgZ)] [] [(2,(kpL [0,1,7,8]))] [(2,1,[]),(2,0,(kpL [4]))] [(2,spW zq4 z4x (zio) (.inl default) zrc zqR)] []
theorem zqB:zJ ziy (lp (body f221) 0):=zq (id:=2) (hl:=rfl)
def zrK (s:yB):Wy0 (Int):=.bn (zqW (s.length+(Int.ofNat s.length).toNat +Int.toNat 0+1) s (Int.ofNat s.length) 0) λr0=>.i (isL r0) (.k (getL r0)) (.k (-1:Int))
def zdC (s:yB):=(zrK s).fin default
def zrW:AL base (yB×Unit×Unit):=zd (ze (vSl 107)) (zd (ze (vFn 227 zc1)) zt)
def zhL:=zh zrW λx=>((zdC x.1).1,zMl (zdC x.1).2)
theorem zpq:SdP 221 zhL:=
 sT (cx':=ziy) (zi ⟨zjW,trivial⟩) call221 func221 (lOK (aC zqB aN))
def zpu:=zbx base 9 [(221,zhL),(227,zgZ)]
def zhM (s:yB):Wy0 (Bool):=.bn (zdC s) λr0=>.k (decide (r0≥0))
def zda (s:yB):=(zhM s).fin default
def zgx:=zh zrW λx=>((zda x.1).1,zTe (zda x.1).2)
theorem znG:SdP 161 zgx:=
 sT (cx':=zpu) (zi ⟨zpq,zjW,trivial⟩) call161 func161 (lOK aN)
def zHK:=zbx base 5 [(161,zgx),(227,zgZ)]
def zxT (a:yB):Wy0 (Bool):=.bn (zda a) λr0=>.k r0
def zeI (a:yB):=(zxT a).fin default
def zmd:=zh zUU λx=>((zeI x.1).1,zTe (zeI x.1).2)
theorem ztE:SdP 177 zmd:=
 sT (cx':=zHK) (zi ⟨znG,zjW,trivial⟩) call177 func177 (lOK aN)
def zI0:=zbx base 14 []
def zyC (a:yB):Wy0 (Bool):=.i (Int.ofNat a.length==1) (.i (decide ((0:Int)<=(0:Int))&&decide (0<Int.ofNat a.length)) (.k (Int.ofNat (a.getD (Int.toNat 0) default).Fs.length==0)) .d) (.k false)
def zhh (a:yB):=(zyC a).fin default
def znE:=zh zUU λx=>((zhh x.1).1,zTe (zhh x.1).2)
theorem zuz:SdP 175 znE:=
 sT (cx':=zI0) (zi trivial) call175 func175 (lOK aN)
def zRb:=zbx base 42 [(105,zjg)]
def zDj (a:yB):Wy0 (Bool):=.i (Int.ofNat a.length != 1) (.k false) (.i (decide ((0:Int)<=(0:Int))&&decide (0<Int.ofNat a.length)) (.i ((a.getD (Int.toNat 0) default).Cf != 1) (.k false) (.i (decide ((0:Int)<=(0:Int))&&decide (0<Int.ofNat a.length)) (.i (Int.ofNat (a.getD (Int.toNat 0) default).Fs.length != 1) (.k false) (.i (decide ((0:Int)<=(0:Int))&&decide (0<Int.ofNat a.length)) (.i (decide ((0:Int)<=(0:Int))&&decide (0<Int.ofNat (a.getD (Int.toNat 0) default).Fs.length)) (.i (((a.getD (Int.toNat 0) default).Fs.getD (Int.toNat 0) default).Exp==1) (.i (((a.getD (Int.toNat 0) default).Fs.getD (Int.toNat 0) default).At.Kind==2) (.k true) (.bn (zff (At.mk ((a.getD (Int.toNat 0) default).Fs.getD (Int.toNat 0) default).At.Kind ((a.getD (Int.toNat 0) default).Fs.getD (Int.toNat 0) default).At.Row ((a.getD (Int.toNat 0) default).Fs.getD (Int.toNat 0) default).At.Ag ((a.getD (Int.toNat 0) default).Fs.getD (Int.toNat 0) default).At.Func ((a.getD (Int.toNat 0) default).Fs.getD (Int.toNat 0) default).At.Items ((a.getD (Int.toNat 0) default).Fs.getD (Int.toNat 0) default).At.Op ((a.getD (Int.toNat 0) default).Fs.getD (Int.toNat 0) default).At.Bd)) λr0=>.k r0)) (.k false)) .d) .d)) .d)) .d)
def zkL (a:yB):=(zDj a).fin default
def zsw:=zh zUU λx=>((zkL x.1).1,zTe (zkL x.1).2)
theorem zyL:SdP 176 zsw:=
 sT (cx':=zRb) (zi ⟨zmu,trivial⟩) call176 func176 (lOK aN)
def zZ6:=zbx base 11 []
def zNA (id:RowID):Wy0 (Bool):=.i (decide (id.Table≥1)) (.k (decide (id.Seq≥1))) (.k false)
def zp8 (id:RowID):=(zNA id).fin default
def zti:=zh z8l λx=>((zp8 x.1).1,zTe (zp8 x.1).2)
theorem zx3:SdP 116 zti:=
 sT (cx':=zZ6) (zi trivial) call116 func116 (lOK aN)
abbrev zeu:=yD×Unit×Int×Unit
def zec (x_:yD) (i:Int):Wy zeu Unit (Bool⊕Unit):=.i (decide (i>0)) (.i (decide (0<=i)&&decide (i<Int.ofNat x_.length)) (.i (decide (0<=IntKind.i64.wrap (i - 1))&&decide (IntKind.i64.wrap (i - 1)<Int.ofNat x_.length)) (.bn (z6 (x_.getD i.toNat default) (x_.getD (IntKind.i64.wrap (i - 1)).toNat default)) λr0=>.i (decide (r0<0)) (.k (.inl false)) (.h (x_,(),(IntKind.i64.wrap (i - 1)),()) ())) .d) .d) (.k (.inr ()))
def zhb (x:zeu) (y:Unit):=zec x.1 x.2.2.1
def zeb (n:Nat) (x_:yD) (i:Int):=zA (zhb) (.inl default) n (x_,(),i,()) ()
def zpB:LL ty zeu:=za (lSl 169) (za (lFn 172 (zm)) (za zj zm))
def zhd:=zb1 base 25 [(172,zfm)] [] [(2,(kpL [0,1,5]))] [(2,1,[]),(2,0,(kpL [4]))] [(2,spW zpB z4x (zhb) (.inl default) zmp λx y=>(x.1.length+Int.toNat x.2.2.1+1))] []
theorem zov:zJ zhd (lp (body f180) 0):=zq (id:=2) (hl:=rfl)
def zhu (x_:yD):Wy0 (Bool):=.bn (zeb (x_.length+(IntKind.i64.wrap (Int.ofNat x_.length - 1)).toNat +1) x_ (IntKind.i64.wrap (Int.ofNat x_.length - 1))) λr2=>.i (isL r2) (.k (getL r2)) (.k true)
def zcg (x_:yD):=(zhu x_).fin default
def zpU:AL base (yD×Unit×Unit):=zd (ze (vSl 169)) (zd (ze (vFn 172 zc1)) zt)
def zgw:=zh zpU λx=>((zcg x.1).1,zTe (zcg x.1).2)
theorem znr:SdP 180 zgw:=
 sT (cx':=zhd) (zi ⟨zhn,trivial⟩) call180 func180 (lOK (aC zov aN))
def zcK (zb:yA->Bool×Bool) (zg:yB->Bool×Bool) (zc:yD->Bool×Bool) (zf:Wd->Bool×Bool):=zbx base 149 [(115,zmZ),(116,zti),(172,zfm),(173,(zck zb)),(174,(zhC zg)),(175,znE),(176,zsw),(177,zmd),(178,(zcC zc)),(179,(zdj zf)),(180,zgw),(181,zq3)]
def zb7 (zb:yA->Bool×Bool) (zg:yB->Bool×Bool) (zc:yD->Bool×Bool) (zf:Wd->Bool×Bool) (x_:At):Wy0 (Bool):=.i (x_.Kind==0) (.i (x_.Func != 0) (.k false) (.i (Int.ofNat x_.Items.length != 0) (.k false) (.i (x_.Op != 0) (.k false) (.i (!(x_.Bd.Kind==0&&(x_.Bd.Int==0&&(x_.Bd.Text.toList==(ByteArray.mk #[]).toList&&true)))) (.k false) (.bn (zb x_.Ag) λr1=>.i (r1) (.k false) (.bn (zp8 x_.Row) λr0=>.i (r0) (.k (Int.ofNat x_.Ag.length==0)) (.k false))))))) (.i (x_.Kind==1) (.i (x_.Func != 0) (.k false) (.i (Int.ofNat x_.Items.length != 0) (.k false) (.i (x_.Op != 0) (.k false) (.i (!(x_.Bd.Kind==0&&(x_.Bd.Int==0&&(x_.Bd.Text.toList==(ByteArray.mk #[]).toList&&true)))) (.k false) (.i (!(x_.Row.Table==0&&(x_.Row.Seq==0&&true))) (.k false) (.bn (zb x_.Ag) λr3=>.i (r3) (.k false) (.i (Int.ofNat x_.Ag.length==2) (.i (decide ((0:Int)<=(0:Int))&&decide (0<Int.ofNat x_.Ag.length)) (.i (decide ((0:Int)<=(1:Int))&&decide (1<Int.ofNat x_.Ag.length)) (.bn (zhA (x_.Ag.getD (Int.toNat 0) default) (x_.Ag.getD (Int.toNat 1) default)) λr2=>.k (!r2)) .d) .d) (.k false)))))))) (.i (x_.Kind==2) (.i (x_.Func != 0) (.k false) (.i (Int.ofNat x_.Items.length != 0) (.k false) (.i (x_.Op != 0) (.k false) (.i (!(x_.Bd.Kind==0&&(x_.Bd.Int==0&&(x_.Bd.Text.toList==(ByteArray.mk #[]).toList&&true)))) (.k false) (.i (!(x_.Row.Table==0&&(x_.Row.Seq==0&&true))) (.k false) (.bn (zb x_.Ag) λr6=>.i (r6) (.k false) (.i (Int.ofNat x_.Ag.length==1) (.i (decide ((0:Int)<=(0:Int))&&decide (0<Int.ofNat x_.Ag.length)) (.bn (zhh (x_.Ag.getD (Int.toNat 0) default)) λr5=>.i (!r5) (.i (decide ((0:Int)<=(0:Int))&&decide (0<Int.ofNat x_.Ag.length)) (.bn (zkL (x_.Ag.getD (Int.toNat 0) default)) λr4=>.k (!r4)) .d) (.k false)) .d) (.k false)))))))) (.i (x_.Kind==3) (.i (x_.Func != 0) (.k false) (.i (Int.ofNat x_.Items.length != 0) (.k false) (.i (x_.Op != 0) (.k false) (.i (!(x_.Bd.Kind==0&&(x_.Bd.Int==0&&(x_.Bd.Text.toList==(ByteArray.mk #[]).toList&&true)))) (.k false) (.i (!(x_.Row.Table==0&&(x_.Row.Seq==0&&true))) (.k false) (.bn (zb x_.Ag) λr8=>.i (r8) (.k false) (.i (Int.ofNat x_.Ag.length==1) (.i (decide ((0:Int)<=(0:Int))&&decide (0<Int.ofNat x_.Ag.length)) (.bn (zeI (x_.Ag.getD (Int.toNat 0) default)) λr7=>.k (!r7)) .d) (.k false)))))))) (.i (x_.Kind==4) (.i (!(x_.Row.Table==0&&(x_.Row.Seq==0&&true))) (.k false) (.bn (zb x_.Ag) λr12=>.i (r12) (.k false) (.bn (zc x_.Items) λr11=>.i (Int.ofNat x_.Ag.length==0) (.i (decide (Int.ofNat x_.Items.length>0)) (.i (!r11) (.bn (zcg x_.Items) λr10=>.i (r10) (.bn (zjx x_.Func x_.Items x_.Op x_.Bd) λr9=>.k r9) (.k false)) (.k false)) (.k false)) (.k false)))) (.i (x_.Func != 0) (.k false) (.i (Int.ofNat x_.Items.length != 0) (.k false) (.i (x_.Op != 0) (.k false) (.i (!(x_.Bd.Kind==0&&(x_.Bd.Int==0&&(x_.Bd.Text.toList==(ByteArray.mk #[]).toList&&true)))) (.k false) (.i (!(x_.Row.Table==0&&(x_.Row.Seq==0&&true))) (.k false) (.bn (zb x_.Ag) λr14=>.i (r14) (.k false) (.k false)))))))))))
def ziY (zb:yA->Bool×Bool) (zg:yB->Bool×Bool) (zc:yD->Bool×Bool) (zf:Wd->Bool×Bool) (x_:At):=(zb7 zb zg zc zf x_).fin default
theorem zFf (zb:yA->Bool×Bool) (zg:yB->Bool×Bool) (zc:yD->Bool×Bool) (zf:Wd->Bool×Bool) (v_Row:RowID) (v_Args:yA) (v_Func:Int) (v_Items:yD) (v_Op:Int) (v_Bound:Value)  :zeh (zcK zb zg zc zf) f107 (body f107) ⟨[.pure],[]⟩ [.pure (.agg (base.enc 143 (At.mk (Int.ofNat 0) v_Row v_Args v_Func v_Items v_Op v_Bound)))]=(zb7 zb zg zc zf (At.mk (Int.ofNat 0) v_Row v_Args v_Func v_Items v_Op v_Bound)).ev noH (λr=>some (zTe r)) none:=by kernel_rfl
theorem zEV (zb:yA->Bool×Bool) (zg:yB->Bool×Bool) (zc:yD->Bool×Bool) (zf:Wd->Bool×Bool) (v_Row:RowID) (v_Args:yA) (v_Func:Int) (v_Items:yD) (v_Op:Int) (v_Bound:Value)  :zeh (zcK zb zg zc zf) f107 (body f107) ⟨[.pure],[]⟩ [.pure (.agg (base.enc 143 (At.mk (Int.ofNat 1) v_Row v_Args v_Func v_Items v_Op v_Bound)))]=(zb7 zb zg zc zf (At.mk (Int.ofNat 1) v_Row v_Args v_Func v_Items v_Op v_Bound)).ev noH (λr=>some (zTe r)) none:=by kernel_rfl
theorem zFc (zb:yA->Bool×Bool) (zg:yB->Bool×Bool) (zc:yD->Bool×Bool) (zf:Wd->Bool×Bool) (v_Row:RowID) (v_Args:yA) (v_Func:Int) (v_Items:yD) (v_Op:Int) (v_Bound:Value)  :zeh (zcK zb zg zc zf) f107 (body f107) ⟨[.pure],[]⟩ [.pure (.agg (base.enc 143 (At.mk (Int.ofNat 2) v_Row v_Args v_Func v_Items v_Op v_Bound)))]=(zb7 zb zg zc zf (At.mk (Int.ofNat 2) v_Row v_Args v_Func v_Items v_Op v_Bound)).ev noH (λr=>some (zTe r)) none:=by kernel_rfl
theorem zEM (zb:yA->Bool×Bool) (zg:yB->Bool×Bool) (zc:yD->Bool×Bool) (zf:Wd->Bool×Bool) (v_Row:RowID) (v_Args:yA) (v_Func:Int) (v_Items:yD) (v_Op:Int) (v_Bound:Value)  :zeh (zcK zb zg zc zf) f107 (body f107) ⟨[.pure],[]⟩ [.pure (.agg (base.enc 143 (At.mk (Int.ofNat 3) v_Row v_Args v_Func v_Items v_Op v_Bound)))]=(zb7 zb zg zc zf (At.mk (Int.ofNat 3) v_Row v_Args v_Func v_Items v_Op v_Bound)).ev noH (λr=>some (zTe r)) none:=by kernel_rfl
theorem zEH (zb:yA->Bool×Bool) (zg:yB->Bool×Bool) (zc:yD->Bool×Bool) (zf:Wd->Bool×Bool) (v_Row:RowID) (v_Args:yA) (v_Func:Int) (v_Items:yD) (v_Op:Int) (v_Bound:Value)  :zeh (zcK zb zg zc zf) f107 (body f107) ⟨[.pure],[]⟩ [.pure (.agg (base.enc 143 (At.mk (Int.ofNat 4) v_Row v_Args v_Func v_Items v_Op v_Bound)))]=(zb7 zb zg zc zf (At.mk (Int.ofNat 4) v_Row v_Args v_Func v_Items v_Op v_Bound)).ev noH (λr=>some (zTe r)) none:=by kernel_rfl
theorem zE6 (zb:yA->Bool×Bool) (zg:yB->Bool×Bool) (zc:yD->Bool×Bool) (zf:Wd->Bool×Bool) (n:Nat) (v_Row:RowID) (v_Args:yA) (v_Func:Int) (v_Items:yD) (v_Op:Int) (v_Bound:Value)  :zeh (zcK zb zg zc zf) f107 (body f107) ⟨[.pure],[]⟩ [.pure (.agg (base.enc 143 (At.mk (Int.ofNat (n+5)) v_Row v_Args v_Func v_Items v_Op v_Bound)))]=(zb7 zb zg zc zf (At.mk (Int.ofNat (n+5)) v_Row v_Args v_Func v_Items v_Op v_Bound)).ev noH (λr=>some (zTe r)) none:=by kernel_rfl
theorem zE7 (zb:yA->Bool×Bool) (zg:yB->Bool×Bool) (zc:yD->Bool×Bool) (zf:Wd->Bool×Bool) (n:Nat) (v_Row:RowID) (v_Args:yA) (v_Func:Int) (v_Items:yD) (v_Op:Int) (v_Bound:Value)  :zeh (zcK zb zg zc zf) f107 (body f107) ⟨[.pure],[]⟩ [.pure (.agg (base.enc 143 (At.mk (Int.negSucc n) v_Row v_Args v_Func v_Items v_Op v_Bound)))]=(zb7 zb zg zc zf (At.mk (Int.negSucc n) v_Row v_Args v_Func v_Items v_Op v_Bound)).ev noH (λr=>some (zTe r)) none:=by kernel_rfl
theorem zFZ (zb:yA->Bool×Bool) (zg:yB->Bool×Bool) (zc:yD->Bool×Bool) (zf:Wd->Bool×Bool) (x_:At):zeh (zcK zb zg zc zf) f107 (body f107) ⟨[.pure],[]⟩ [.pure (.agg (base.enc 143 x_))]=(zb7 zb zg zc zf x_).ev noH (λr=>some (zTe r)) none:=by
 obtain ⟨v_Kind,v_Row,v_Args,v_Func,v_Items,v_Op,v_Bound⟩:=x_
 match v_Kind with
 | .ofNat 0=>exact zFf zb zg zc zf v_Row v_Args v_Func v_Items v_Op v_Bound 
 | .ofNat 1=>exact zEV zb zg zc zf v_Row v_Args v_Func v_Items v_Op v_Bound 
 | .ofNat 2=>exact zFc zb zg zc zf v_Row v_Args v_Func v_Items v_Op v_Bound 
 | .ofNat 3=>exact zEM zb zg zc zf v_Row v_Args v_Func v_Items v_Op v_Bound 
 | .ofNat 4=>exact zEH zb zg zc zf v_Row v_Args v_Func v_Items v_Op v_Bound 
 | .ofNat (n+5)=>exact zE6 zb zg zc zf n v_Row v_Args v_Func v_Items v_Op v_Bound 
 | .negSucc n=>exact zE7 zb zg zc zf n v_Row v_Args v_Func v_Items v_Op v_Bound 
theorem zEf (zb:yA->Bool×Bool) (zg:yB->Bool×Bool) (zc:yD->Bool×Bool) (zf:Wd->Bool×Bool) (zlj:SdP 173 (zck zb)) (zfF:SdP 174 (zhC zg)) (zmR:SdP 178 (zcC zc)) (zfJ:SdP 179 (zdj zf)):SdP 107 (zl8 (ziY zb zg zc zf)):=
 z2p (cx':=(zcK zb zg zc zf)) zzQ zhf z6T (zi ⟨zsC,zx3,zhn,zlj,zfF,zuz,zyL,ztE,zmR,zfJ,znr,zxz,trivial⟩) call107 func107 (c:=body f107) (by kernel_rfl) (zr5 (l:=[]) (by kernel_rfl) trivial) (sg:=⟨[.pure],[]⟩) (A:=z6N) (res:=zTe) (W:=λx=>zb7 zb zg zc zf x.1) (z:=default) (λx=>zFZ zb zg zc zf x.1) (λ_=>by kernel_rfl)
def zD9 (zbJ:yB->Bool×Bool):=zbx base 11 [(52,(zhC zbJ))]
def zuv (zbJ:yB->Bool×Bool) (a:yB):Wy0 (Bool):=.bn (zbJ a) λr0=>.i (!r0) (.k true) (.k (Int.ofNat a.length==0))
def zjR (zbJ:yB->Bool×Bool) (a:yB):=(zuv zbJ a).fin default
theorem zBo (zbJ:yB->Bool×Bool) (zuR:SdP 52 (zhC zbJ)):SdP 174 (zhC (zjR zbJ)):=
 sT (cx':=(zD9 zbJ)) (zi ⟨zuR,trivial⟩) call174 func174 (lOK aN)
def zD1 (zbJ:yB->Bool×Bool):=zbx base 13 [(52,(zhC zbJ))]
def zur (zbJ:yB->Bool×Bool) (w:Wd):Wy0 (Bool):=.bn (zbJ w.Ann) λr0=>.i (!r0) (.k true) (.k (Int.ofNat w.Ann.length==0))
def zjL (zbJ:yB->Bool×Bool) (w:Wd):=(zur zbJ w).fin default
theorem zBs (zbJ:yB->Bool×Bool) (zuR:SdP 52 (zhC zbJ)):SdP 179 (zdj (zjL zbJ)):=
 sT (cx':=(zD1 zbJ)) (zi ⟨zuR,trivial⟩) call179 func179 (lOK aN)
def zk2 (zg:yB->Bool×Bool) (zW:yA->Bool×Int):=zbx base 9 [(174,(zhC zg)),(226,(zcz zW))]
def zeY (zg:yB->Bool×Bool) (zW:yA->Bool×Int) (s:yA):Wy0 (Bool):=.bn (zW s) λr0=>.k (decide (r0≥0))
def zcl (zg:yB->Bool×Bool) (zW:yA->Bool×Int) (s:yA):=(zeY zg zW s).fin default
theorem zj3 (zg:yB->Bool×Bool) (zW:yA->Bool×Int) (zfF:SdP 174 (zhC zg)) (zmf:SdP 226 (zcz zW)):SdP 173 (zck (zcl zg zW)):=
 sT (cx':=(zk2 zg zW)) (zi ⟨zfF,zmf,trivial⟩) call173 func173 (lOK aN)
def zmG (zf:Wd->Bool×Bool) (z7:yD->Bool×Int):=zbx base 9 [(179,(zdj zf)),(228,(zcU z7))]
def zf2 (zf:Wd->Bool×Bool) (z7:yD->Bool×Int) (s:yD):Wy0 (Bool):=.bn (z7 s) λr0=>.k (decide (r0≥0))
def zcB (zf:Wd->Bool×Bool) (z7:yD->Bool×Int) (s:yD):=(zf2 zf z7 s).fin default
theorem zlk (zf:Wd->Bool×Bool) (z7:yD->Bool×Int) (zfJ:SdP 179 (zdj zf)) (zo1:SdP 228 (zcU z7)):SdP 178 (zcC (zcB zf z7)):=
 sT (cx':=(zmG zf z7)) (zi ⟨zfJ,zo1,trivial⟩) call178 func178 (lOK aN)
abbrev zcV:=yA×Unit×Int×Int×Unit
def zlZ (zg:yB->Bool×Bool) (s:yA) (t7:Int) (t8:Int):Wy zcV Unit (Int⊕Unit):=.i (decide (t8<t7)) (.i (decide (0<=t8)&&decide (t8<Int.ofNat s.length)) (.bn (zg (s.getD t8.toNat default)) λr0=>.i (r0) (.k (.inl t8)) (.h (s,(),t7,(IntKind.i64.wrap (t8+1)),()) ())) .d) (.k (.inr ()))
def zfv (zg:yB->Bool×Bool) (x:zcV) (y:Unit):=zlZ zg x.1 x.2.2.1 x.2.2.2.1
def zlT (zg:yB->Bool×Bool) (n:Nat) (s:yA) (t7:Int) (t8:Int):=zA (zfv zg) (.inl default) n (s,(),t7,t8,()) ()
def zl3:LL ty zcV:=za (lSl 51) (za (lFn 174 (zm)) (za zj (za zj zm)))
def zlG (x:zcV) (y:Unit):Nat:=(x.1.length+Int.toNat x.2.2.1+Int.toNat x.2.2.2.1+1)
def zfu (zg:yB->Bool×Bool):=zb1 base 19 [(174,(zhC zg))] [] [(2,(kpL [0,1,7,8]))] [(2,1,[]),(2,0,(kpL [4]))] [(2,spW zl3 z4x (zfv zg) (.inl default) zrc zlG)] []
theorem zlH (zg:yB->Bool×Bool):zJ (zfu zg) (lp (body f226) 0):=zq (id:=2) (hl:=rfl)
def zmI (zg:yB->Bool×Bool) (s:yA):Wy0 (Int):=.bn (zlT zg (s.length+(Int.ofNat s.length).toNat +Int.toNat 0+1) s (Int.ofNat s.length) 0) λr2=>.i (isL r2) (.k (getL r2)) (.k (-1:Int))
def zcy (zg:yB->Bool×Bool) (s:yA):=(zmI zg s).fin default
theorem zk0 (zg:yB->Bool×Bool) (zfF:SdP 174 (zhC zg)):SdP 226 (zcz (zcy zg)):=
 sT (cx':=(zfu zg)) (zi ⟨zfF,trivial⟩) call226 func226 (lOK (aC (zlH zg) aN))
end Go.Proofs.YtoknknbmfmddbaaGreatDoor
end
