/- Texts of this claim, joined (the program, its functions in plain words, and what they compute). -/
import Derived.Test.YtoknknbmfmddbaaGreatDoorGC1
set_option autoImplicit false
set_option linter.unusedVariables false
set_option linter.unusedSectionVars false
set_option linter.unusedSimpArgs false
set_option maxRecDepth 1000000
set_option maxHeartbeats 0
noncomputable section
namespace Go.Proofs.YtoknknbmfmddbaaGreatDoor
open Go Go.Ab
open Go.Proofs.Tryz
abbrev zck:=yG×yG×Unit×yG×Int×Int×Unit
abbrev zfL:=Int⊕(yG×yG)
def zka (s1:yG) (s2:yG) (t11:yG) (t12:Int) (t13:Int):Wy zck Unit zfL:=.i (decide (t13<t12)) (.i (decide (0<=t13)&&decide (t13<Int.ofNat t11.length)) (.i (decide (t13≥Int.ofNat s2.length)) (.k (.inl 1)) (.i (decide (0<=t13)&&decide (t13<Int.ofNat s2.length)) (.bn (zjO (t11.getD t13.toNat default) (s2.getD t13.toNat default)) λr0=>.i (r0 != 0) (.k (.inl (r0))) (.h (s1,s2,(),t11,t12,(IntKind.i64.wrap (t13+1)),()) ())) .d)) .d) (.k (.inr (s1,s2)))
def zez (x:zck) (y:Unit):=zka x.1 x.2.1 x.2.2.2.1 x.2.2.2.2.1 x.2.2.2.2.2.1
def zj3 (n:Nat) (s1:yG) (s2:yG) (t11:yG) (t12:Int) (t13:Int):=zB (zez) (.inl default) n (s1,s2,(),t11,t12,t13,()) ()
def zjU (r:zfL):LTree ty:=.ite (isL r) (.done .ret [.lit (.int .i64 (getL r))] []) (.done (.exit 0) [.sl 79 (getR r).1,.sl 79 (getR r).2] [])
def zj6:LL ty zck:=za (lSl 79) (za (lSl 79) (za (lFn 131 (zl)) (za (lSl 79) (za zj (za zj zl)))))
def zjT (x:zck) (y:Unit):Nat:=(x.1.length+x.2.1.length+x.2.2.2.1.length+Int.toNat x.2.2.2.2.1+Int.toNat x.2.2.2.2.2.1+1)
def zeB:=zbZ base 39 [(131,zna)] [] [(2,(kpL [0,1,2,11,12,13]))] [(2,1,(kpL [0,1])),(2,0,(kpL [6]))] [(2,spW zj6 z6k (zez) (.inl default) zjU zjT)] []
theorem zjS:zI zeB (lp (body f130) 0):=zo (id:=2) (hl:=rfl)
def zku (s1:yG) (s2:yG):Wy0 (Int):=.bn (zj3 (s1.length+s2.length+s1.length+(Int.ofNat s1.length).toNat +Int.toNat 0+1) s1 s2 s1 (Int.ofNat s1.length) 0) λr2=>.i (isL r2) (.k (getL r2)) (.i (decide (Int.ofNat (getR r2).1.length<Int.ofNat (getR r2).2.length)) (.k (-1:Int)) (.k 0))
def zb5 (s1:yG) (s2:yG):=(zku s1 s2).fin default
def zkq:AL base (yG×yG×Unit×Unit):=zd (ze (vSl 79)) (zd (ze (vSl 79)) (zd (ze (vFn 131 zc3)) zr))
def zeq:=zh zkq λx=>((zb5 x.1 x.2.1).1,zOz (zb5 x.1 x.2.1).2)
theorem zjx:SdP 130 zeq:=
 sT (cx':=zeB) (zi ⟨zro,trivial⟩) call130 func130 (lOK (aC zjS aN))
def zSn:=zbv base 8 [(130,zeq),(131,zna)]
def zEV (a:yG) (b:yG):Wy0 (Int):=.bn (zb5 a b) λr0=>.k r0
def zpb (a:yG) (b:yG):=(zEV a b).fin default
def zUi:AL base (yG×yG×Unit):=zd (ze (vSl 79)) (zd (ze (vSl 79)) zr)
def zAR:=zh zUi λx=>((zpb x.1 x.2.1).1,zOz (zpb x.1 x.2.1).2)
theorem zMu:SdP 77 zAR:=
 sT (cx':=zSn) (zi ⟨zjx,zro,trivial⟩) call77 func77 (lOK aN)
def zUx:=zbv base 10 [(77,zAR)]
def zGB (x_:Row) (y_:Row):Wy0 (Int):=.bn (zpb x_.Values y_.Values) λr0=>.k r0
def zcp (x_:Row) (y_:Row):=(zGB x_ y_).fin default
def zXe:AL base (Row×Row×Unit):=zd (ze (zbX 54)) (zd (ze (zbX 54)) zr)
def zfF:=zh zXe λx=>((zcp x.1 x.2.1).1,zOz (zcp x.1 x.2.1).2)
theorem zgP:SdP 53 zfF:=
 sT (cx':=zUx) (zi ⟨zMu,trivial⟩) call53 func53 (lOK aN)
def zTQ:=zbv base 16 [(53,zfF),(115,znL)]
def zVk (x_:Row) (y_:Row):Wy0 (Bool):=.bn (zcp x_ y_) λr1=>.i (r1==0) (.bn (zhU x_.Ann y_.Ann) λr0=>.k r0) (.k false)
def zBL (x_:Row) (y_:Row):=(zVk x_ y_).fin default
def zuL:=zh zXe λx=>((zBL x.1 x.2.1).1,zUI (zBL x.1 x.2.1).2)
theorem zA0:SdP 60 zuL:=
 sT (cx':=zTQ) (zi ⟨zgP,ztt,trivial⟩) call60 func60 (lOK aN)
abbrev zdk:=yF×Unit×yF×Int×Int×Unit
def znC (s2:yF) (t15:yF) (t16:Int) (t17:Int):Wy zdk Unit (Bool⊕Unit):=.i (decide (t17<t16)) (.i (decide (0<=t17)&&decide (t17<Int.ofNat t15.length)) (.i (decide (0<=t17)&&decide (t17<Int.ofNat s2.length)) (.bn (zBL (t15.getD t17.toNat default) (s2.getD t17.toNat default)) λr0=>.i (!r0) (.k (.inl false)) (.h (s2,(),t15,t16,(IntKind.i64.wrap (t17+1)),()) ())) .d) .d) (.k (.inr ()))
def zgm (x:zdk) (y:Unit):=znC x.1 x.2.2.1 x.2.2.2.1 x.2.2.2.2.1
def znA (n:Nat) (s2:yF) (t15:yF) (t16:Int) (t17:Int):=zB (zgm) (.inl default) n (s2,(),t15,t16,t17,()) ()
def znl (r:Bool⊕Unit):LTree ty:=.ite (isL r) (.done .ret [.lit (.bool (getL r))] []) (.done (.exit 0) [] [])
def znx:LL ty zdk:=za (lSl 54) (za (lFn 60 (zl)) (za (lSl 54) (za zj (za zj zl))))
def znh (x:zdk) (y:Unit):Nat:=(x.1.length+x.2.2.1.length+Int.toNat x.2.2.2.1+Int.toNat x.2.2.2.2.1+1000)
def zgl:=zbZ base 32 [(60,zuL)] [] [(4,(kpL [1,2,15,16,17]))] [(4,1,[]),(4,0,(kpL [6]))] [(4,spW znx z6k (zgm) (.inl default) znl znh)] []
theorem zm2:zI zgl (lp (body f59) 0):=zo (id:=4) (hl:=rfl)
def zou (s1:yF) (s2:yF):Wy0 (Bool):=.i (Int.ofNat s1.length != Int.ofNat s2.length) (.k false) (.bn (znA (s2.length+s1.length+(Int.ofNat s1.length).toNat +Int.toNat 0+1000) s2 s1 (Int.ofNat s1.length) 0) λr2=>.i (isL r2) (.k (getL r2)) (.k true))
def zef (s1:yF) (s2:yF):=(zou s1 s2).fin default
def zon:AL base (yF×yF×Unit×Unit):=zd (ze (vSl 54)) (zd (ze (vSl 54)) (zd (ze (vFn 60 zc3)) zr))
def zfN:=zh zon λx=>((zef x.1 x.2.1).1,zUI (zef x.1 x.2.1).2)
theorem zmq:SdP 59 zfN:=
 sT (cx':=zgl) (zi ⟨zA0,trivial⟩) call59 func59 (lOK (aC zm2 aN))
abbrev zfo:=yH×yH×Int×Int×Unit
def zxy (s1:yH) (s2:yH) (t12:Int) (t13:Int):Wy zfo Unit (Bool⊕Unit):=.i (decide (t13<t12)) (.i (decide (0<=t13)&&decide (t13<Int.ofNat s1.length)) (.i (decide (0<=t13)&&decide (t13<Int.ofNat s2.length)) (.i (!((s1.getD t13.toNat default).Name.toList==(s2.getD t13.toNat default).Name.toList&&((s1.getD t13.toNat default).Type_==(s2.getD t13.toNat default).Type_&&true))) (.k (.inl false)) (.h (s1,s2,t12,(IntKind.i64.wrap (t13+1)),()) ())) .d) .d) (.k (.inr ()))
def zmd (x:zfo) (y:Unit):=zxy x.1 x.2.1 x.2.2.1 x.2.2.2.1
def zxD (n:Nat) (s1:yH) (s2:yH) (t12:Int) (t13:Int):=zB (zmd) (.inl default) n (s1,s2,t12,t13,()) ()
def zxB:LL ty zfo:=za (lSl 75) (za (lSl 75) (za zj (za zj zl)))
def zwY (x:zfo) (y:Unit):Nat:=(x.1.length+x.2.1.length+Int.toNat x.2.2.1+Int.toNat x.2.2.2.1+1000)
def zl1:=zbZ base 26 [] [] [(4,(kpL [0,1,12,13]))] [(4,1,[]),(4,0,(kpL [4]))] [(4,spW zxB z6k (zmd) (.inl default) znl zwY)] []
theorem zwy:zI zl1 (lp (body f58) 0):=zo (id:=4) (hl:=rfl)
def zyb (s1:yH) (s2:yH):Wy0 (Bool):=.i (Int.ofNat s1.length != Int.ofNat s2.length) (.k false) (.bn (zxD (s1.length+s2.length+(Int.ofNat s1.length).toNat +Int.toNat 0+1000) s1 s2 (Int.ofNat s1.length) 0) λr0=>.i (isL r0) (.k (getL r0)) (.k true))
def zir (s1:yH) (s2:yH):=(zyb s1 s2).fin default
def zyc:AL base (yH×yH×Unit):=zd (ze (vSl 75)) (zd (ze (vSl 75)) zr)
def zk7:=zh zyc λx=>((zir x.1 x.2.1).1,zUI (zir x.1 x.2.1).2)
theorem zva:SdP 58 zk7:=
 sT (cx':=zl1) (zi trivial) call58 func58 (lOK (aC zwy aN))
def zYW:=zbv base 17 [(58,zk7),(59,zfN),(60,zuL)]
def zZ4 (a:Relation) (b:Relation):Wy0 (Bool):=.bn (zir a.Columns b.Columns) λr1=>.i (r1) (.bn (zef a.Rows b.Rows) λr0=>.k r0) (.k false)
def zO6 (a:Relation) (b:Relation):=(zZ4 a b).fin default
def z0t:AL base (Relation×Relation×Unit):=zd (ze (zbX 25)) (zd (ze (zbX 25)) zr)
def zEA:=zh z0t λx=>((zO6 x.1 x.2.1).1,zUI (zO6 x.1 x.2.1).2)
theorem zR6:SdP 16 zEA:=
 sT (cx':=zYW) (zi ⟨zva,zmq,zA0,trivial⟩) call16 func16 (lOK aN)
def zVa:AL base (yB×Unit):=zd (ze (vSl 107)) zr
def zhW (F:yB->Bool×Bool):Ab.Spec ty:=zh zVa λx=>((F x.1).1,zUI (F x.1).2)
def zmS (F:At->Bool×Bool):Ab.Spec ty:=zh z9g λx=>((F x.1).1,zUI (F x.1).2)
def zJe:AL base (Wd×Unit):=zd (ze (zbX 169)) zr
def zdn (F:Wd->Bool×Bool):Ab.Spec ty:=zh zJe λx=>((F x.1).1,zUI (F x.1).2)
def zot:AL base (yA×Unit×Unit):=zd (ze (vSl 51)) (zd (ze (vFn 174 zc3)) zr)
def zcE (F:yA->Bool×Int):Ab.Spec ty:=zh zot λx=>((F x.1).1,zOz (F x.1).2)
def zcl (F:yA->Bool×Bool):Ab.Spec ty:=zh zot λx=>((F x.1).1,zUI (F x.1).2)
def zra:AL base (yD×Unit×Unit):=zd (ze (vSl 169)) (zd (ze (vFn 179 zc3)) zr)
def zc0 (F:yD->Bool×Int):Ab.Spec ty:=zh zra λx=>((F x.1).1,zOz (F x.1).2)
def zcH (F:yD->Bool×Bool):Ab.Spec ty:=zh zra λx=>((F x.1).1,zUI (F x.1).2)
def zKU:=zbv base 11 []
def zzS (x_:At):Wy0 (Bool):=.i (x_.Kind==3) (.k true) (.k (x_.Kind==4))
def zfH (x_:At):=(zzS x_).fin default
def zjI:=zh z9g λx=>((zfH x.1).1,zUI (zfH x.1).2)
theorem zm4:SdP 105 zjI:=
 sT (cx':=zKU) (zi trivial) call105 func105 (lOK aN)
def zoQ (F:yB->Bool×Int):Ab.Spec ty:=zh zVa λx=>((F x.1).1,zOz (F x.1).2)
abbrev ztc:=Int×Unit×yB×Int×Int×yC×Int×Int×yA×Int×Int×Unit
abbrev zGT:=Int×yB×Int×Int×yC×Int×Int×Fc
abbrev ztg:=Int×yB×Int×Int×yC×Int×Int×yD×Int×Int×Unit
abbrev zF9:=Int×yB×Int×Int×yC×Int×Int
abbrev zsz:=Int×yB×Int×Int×yC×Int×Int×Unit
abbrev zGF:=Int×yB×Int×Int
abbrev zsM:=Int×yB×Int×Int×Unit
def zj5 (zq:yB->Bool×Int) (n_:Int) (t12:yB) (t13:Int) (t14:Int) (t25:yC) (t26:Int) (t27:Int) (t33:yA) (t34:Int) (t35:Int) (f:Fc):Wy ztc (Fc×Unit) zGT:=.i (decide (t35<t34)) (.i (decide (0<=t35)&&decide (t35<Int.ofNat t33.length)) (.bn (zq (t33.getD t35.toNat default)) λr0=>.h ((IntKind.i64.wrap (n_+r0)),(),t12,t13,t14,t25,t26,t27,t33,t34,(IntKind.i64.wrap (t35+1)),()) (f,())) .d) (.k (n_,t12,t13,t14,t25,t26,t27,f))
def zuw (zq:yB->Bool×Int) (x:ztc) (y:Fc×Unit):=zj5 zq x.1 x.2.2.1 x.2.2.2.1 x.2.2.2.2.1 x.2.2.2.2.2.1 x.2.2.2.2.2.2.1 x.2.2.2.2.2.2.2.1 x.2.2.2.2.2.2.2.2.1 x.2.2.2.2.2.2.2.2.2.1 x.2.2.2.2.2.2.2.2.2.2.1 y.1
def zBX (zq:yB->Bool×Int) (n:Nat) (n_:Int) (t12:yB) (t13:Int) (t14:Int) (t25:yC) (t26:Int) (t27:Int) (t33:yA) (t34:Int) (t35:Int) (f:Fc):=zB (zuw zq) default n (n_,(),t12,t13,t14,t25,t26,t27,t33,t34,t35,()) (f,())
def zNZ (r:zGT):LTree ty:=.done (.exit 4) [.lit (.int .i64 r.1),.ptr 248 0,.sl 107 r.2.1,.lit (.int .i64 r.2.2.1),.lit (.int .i64 r.2.2.2.1),.sl 145 r.2.2.2.2.1,.lit (.int .i64 r.2.2.2.2.2.1),.lit (.int .i64 r.2.2.2.2.2.2.1)] [.box (base.enc 145 r.2.2.2.2.2.2.2) false]
def zPE:LL ty ztc:=za zj (za (zcI 248 0) (za (lSl 107) (za zj (za zj (za (lSl 145) (za zj (za zj (za (lSl 51) (za zj (za zj zl))))))))))
def zP0:BL ty (Fc×Unit):=zd7 (zdv (λx=>(⟨⟨x.1,⟨x.2.1,x.2.2.1⟩,x.2.2.2.1,x.2.2.2.2.1,x.2.2.2.2.2.1,x.2.2.2.2.2.2.1,⟨x.2.2.2.2.2.2.2.1,x.2.2.2.2.2.2.2.2.1,x.2.2.2.2.2.2.2.2.2.1⟩⟩,x.2.2.2.2.2.2.2.2.2.2.1⟩:Fc)) (λx=>(x.At.Kind,x.At.Row.Table,x.At.Row.Seq,x.At.Ag,x.At.Func,x.At.Items,x.At.Op,x.At.Bd.Kind,x.At.Bd.Int,x.At.Bd.Text,x.Exp,())) (λ_=>rfl) (za (zT .i64) (za (zT .i64) (za (zT .i64) (za (lSl 51) (za (zT .i64) (za (lSl 169) (za (zT .i64) (za (zT .i64) (za (zT .i64) (za ztx (za (zT .i64) zl)))))))))))) false (zbe)
def zj8 (zq:yB->Bool×Int) (n_:Int) (t12:yB) (t13:Int) (t14:Int) (t25:yC) (t26:Int) (t27:Int) (t46:yD) (t47:Int) (t48:Int):Wy ztg Unit zF9:=.i (decide (t48<t47)) (.i (decide (0<=t48)&&decide (t48<Int.ofNat t46.length)) (.bn (zq (t46.getD t48.toNat default).Ann) λr2=>.h ((IntKind.i64.wrap (n_+IntKind.i64.wrap (1+r2))),t12,t13,t14,t25,t26,t27,t46,t47,(IntKind.i64.wrap (t48+1)),()) ()) .d) (.k (n_,t12,t13,t14,t25,t26,t27))
def zuz (zq:yB->Bool×Int) (x:ztg) (y:Unit):=zj8 zq x.1 x.2.1 x.2.2.1 x.2.2.2.1 x.2.2.2.2.1 x.2.2.2.2.2.1 x.2.2.2.2.2.2.1 x.2.2.2.2.2.2.2.1 x.2.2.2.2.2.2.2.2.1 x.2.2.2.2.2.2.2.2.2.1
def zB5 (zq:yB->Bool×Int) (n:Nat) (n_:Int) (t12:yB) (t13:Int) (t14:Int) (t25:yC) (t26:Int) (t27:Int) (t46:yD) (t47:Int) (t48:Int):=zB (zuz zq) default n (n_,t12,t13,t14,t25,t26,t27,t46,t47,t48,()) ()
def zOb (r:zF9):LTree ty:=.done (.exit 6) [.lit (.int .i64 r.1),.sl 107 r.2.1,.lit (.int .i64 r.2.2.1),.lit (.int .i64 r.2.2.2.1),.sl 145 r.2.2.2.2.1,.lit (.int .i64 r.2.2.2.2.2.1),.lit (.int .i64 r.2.2.2.2.2.2)] []
def zQc:LL ty ztg:=za zj (za (lSl 107) (za zj (za zj (za (lSl 145) (za zj (za zj (za (lSl 169) (za zj (za zj zl)))))))))
def zlp (zq:yB->Bool×Int) (n_:Int) (t12:yB) (t13:Int) (t14:Int) (t25:yC) (t26:Int) (t27:Int):Wy zsz Unit zGF:=.i (decide (t27<t26)) (.i (decide (0<=t27)&&decide (t27<Int.ofNat t25.length)) (.bn (zBX zq (n_.toNat +t12.length+t13.toNat +t14.toNat +t25.length+t26.toNat +t27.toNat +(t25.getD t27.toNat default).At.Ag.length+(Int.ofNat (t25.getD t27.toNat default).At.Ag.length).toNat +Int.toNat 0+(t25.getD t27.toNat default).At.Ag.length+(t25.getD t27.toNat default).At.Items.length+1) n_ t12 t13 t14 t25 t26 t27 (t25.getD t27.toNat default).At.Ag (Int.ofNat (t25.getD t27.toNat default).At.Ag.length) 0 (FO.mk (At.mk (t25.getD t27.toNat default).At.Kind (t25.getD t27.toNat default).At.Row (t25.getD t27.toNat default).At.Ag (t25.getD t27.toNat default).At.Func (t25.getD t27.toNat default).At.Items (t25.getD t27.toNat default).At.Op (t25.getD t27.toNat default).At.Bd) (t25.getD t27.toNat default).Exp)) λr5=>.bn (zB5 zq (r5.1.toNat +r5.2.1.length+r5.2.2.1.toNat +r5.2.2.2.1.toNat +r5.2.2.2.2.1.length+r5.2.2.2.2.2.1.toNat +r5.2.2.2.2.2.2.1.toNat +r5.2.2.2.2.2.2.2.At.Items.length+(Int.ofNat r5.2.2.2.2.2.2.2.At.Items.length).toNat +Int.toNat 0+1) r5.1 r5.2.1 r5.2.2.1 r5.2.2.2.1 r5.2.2.2.2.1 r5.2.2.2.2.2.1 r5.2.2.2.2.2.2.1 r5.2.2.2.2.2.2.2.At.Items (Int.ofNat r5.2.2.2.2.2.2.2.At.Items.length) 0) λr4=>.h ((r4.1),(r4.2.1),(r4.2.2.1),(r4.2.2.2.1),(r4.2.2.2.2.1),(r4.2.2.2.2.2.1),(IntKind.i64.wrap (r4.2.2.2.2.2.2+1)),()) ()) .d) (.k (n_,t12,t13,t14))
def zv6 (zq:yB->Bool×Int) (x:zsz) (y:Unit):=zlp zq x.1 x.2.1 x.2.2.1 x.2.2.2.1 x.2.2.2.2.1 x.2.2.2.2.2.1 x.2.2.2.2.2.2.1
def zD6 (zq:yB->Bool×Int) (n:Nat) (n_:Int) (t12:yB) (t13:Int) (t14:Int) (t25:yC) (t26:Int) (t27:Int):=zB (zv6 zq) default n (n_,t12,t13,t14,t25,t26,t27,()) ()
def zP3 (r:zGF):LTree ty:=.done (.exit 2) [.lit (.int .i64 r.1),.sl 107 r.2.1,.lit (.int .i64 r.2.2.1),.lit (.int .i64 r.2.2.2)] []
def zSk:LL ty zsz:=za zj (za (lSl 107) (za zj (za zj (za (lSl 145) (za zj (za zj zl))))))
def zkL (zq:yB->Bool×Int) (n_:Int) (t12:yB) (t13:Int) (t14:Int):Wy zsM Unit (Int):=.i (decide (t14<t13)) (.i (decide (0<=t14)&&decide (t14<Int.ofNat t12.length)) (.bn (zD6 zq ((IntKind.i64.wrap (n_+IntKind.i64.wrap (1+Int.ofNat (t12.getD t14.toNat default).Fs.length))).toNat +t12.length+t13.toNat +t14.toNat +(t12.getD t14.toNat default).Fs.length+(Int.ofNat (t12.getD t14.toNat default).Fs.length).toNat +Int.toNat 0+1) (IntKind.i64.wrap (n_+IntKind.i64.wrap (1+Int.ofNat (t12.getD t14.toNat default).Fs.length))) t12 t13 t14 (t12.getD t14.toNat default).Fs (Int.ofNat (t12.getD t14.toNat default).Fs.length) 0) λr8=>.h ((r8.1),(r8.2.1),(r8.2.2.1),(IntKind.i64.wrap (r8.2.2.2+1)),()) ()) .d) (.k n_)
def zvJ (zq:yB->Bool×Int) (x:zsM) (y:Unit):=zkL zq x.1 x.2.1 x.2.2.1 x.2.2.2.1
def zDR (zq:yB->Bool×Int) (n:Nat) (n_:Int) (t12:yB) (t13:Int) (t14:Int):=zB (zvJ zq) default n (n_,t12,t13,t14,()) ()
def zO0 (r:Int):LTree ty:=.done (.exit 0) [.lit (.int .i64 r)] []
def zR5:LL ty zsM:=za zj (za (lSl 107) (za zj (za zj zl)))
def zNE (x:ztc) (y:Fc×Unit):Nat:=(Int.toNat x.1+x.2.2.1.length+Int.toNat x.2.2.2.1+Int.toNat x.2.2.2.2.1+x.2.2.2.2.2.1.length+Int.toNat x.2.2.2.2.2.2.1+Int.toNat x.2.2.2.2.2.2.2.1+x.2.2.2.2.2.2.2.2.1.length+Int.toNat x.2.2.2.2.2.2.2.2.2.1+Int.toNat x.2.2.2.2.2.2.2.2.2.2.1+y.1.At.Ag.length+y.1.At.Items.length+1)
def zOF (x:ztg) (y:Unit):Nat:=(Int.toNat x.1+x.2.1.length+Int.toNat x.2.2.1+Int.toNat x.2.2.2.1+x.2.2.2.2.1.length+Int.toNat x.2.2.2.2.2.1+Int.toNat x.2.2.2.2.2.2.1+x.2.2.2.2.2.2.2.1.length+Int.toNat x.2.2.2.2.2.2.2.2.1+Int.toNat x.2.2.2.2.2.2.2.2.2.1+1)
def zO5 (x:zsz) (y:Unit):Nat:=(Int.toNat x.1+x.2.1.length+Int.toNat x.2.2.1+Int.toNat x.2.2.2.1+x.2.2.2.2.1.length+Int.toNat x.2.2.2.2.2.1+Int.toNat x.2.2.2.2.2.2.1+1)
def zOX (x:zsM) (y:Unit):Nat:=(Int.toNat x.1+x.2.1.length+Int.toNat x.2.2.1+Int.toNat x.2.2.2.1+1)
def zk1 (zq:yB->Bool×Int):=zbZ base 62 [(160,(zoQ zq))] [] [(3,(kpL [3,12,13,14])),(7,(kpL [3,12,13,14,25,26,27])),(10,(kpL [3,7,12,13,14,25,26,27,33,34,35])),(15,(kpL [3,12,13,14,25,26,27,46,47,48]))] [(3,1,(kpL [3])),(7,3,(kpL [3,12,13,14])),(10,5,(kpL [3,7,12,13,14,25,26,27])),(15,7,(kpL [3,12,13,14,25,26,27]))] [(10,spW zPE zP0 (zuw zq) default zNZ zNE),(15,spW zQc z6k (zuz zq) default zOb zOF),(7,spW zSk z6k (zv6 zq) default zP3 zO5),(3,spW zR5 z6k (zvJ zq) default zO0 zOX)] []
theorem zOi (zq:yB->Bool×Int):zI (zk1 zq) (lp (body f160) 2):=zo (id:=10) (hl:=rfl)
theorem zN2 (zq:yB->Bool×Int):zI (zk1 zq) (lp (body f160) 3):=zo (id:=15) (hl:=rfl)
theorem zPk (zq:yB->Bool×Int):zI (zk1 zq) (lp (body f160) 1):=zo (id:=7) (hl:=rfl)
theorem zPr (zq:yB->Bool×Int):zI (zk1 zq) (lp (body f160) 0):=zo (id:=3) (hl:=rfl)
def zEH (zq:yB->Bool×Int) (a:yB):Wy0 (Int):=.bn (zDR zq (Int.toNat 0+a.length+(Int.ofNat a.length).toNat +Int.toNat 0+1) 0 a (Int.ofNat a.length) 0) λr10=>.k r10
def zt5 (zq:yB->Bool×Int) (a:yB):=(zEH zq a).fin default
theorem zMh (zq:yB->Bool×Int) (zT1:SdP 160 (zoQ zq)):SdP 160 (zoQ (zt5 zq)):=
 sT (cx':=(zk1 zq)) (zi ⟨zT1,trivial⟩) call160 func160 (lOK (aC (zPr zq) (aC (zPk zq) (aC (zOi zq) (aC (zN2 zq) aN)))))
def z7A:Nat->(yB->Bool×Int)
 | 0=>λ_=>(false,default)
 | n+1=>zt5 (z7A n)
def zlv (n:Nat):yB->Bool×Int:=z7A n
theorem zSy (n:Nat):zlv (n+1)=zt5 (zlv n):=rfl
theorem z2a:∀ n,SdP 160 (zoQ (zlv n))
 | 0=>zbk call160 (λ_=>rfl)
 | n+1=>by
  have ih:=z2a n;exact zMh _ (ih)
def zC0:yB->Bool×Int:=zlv 1000
def zDu:Ab.Spec ty:=zoQ zC0
theorem zPA:SdP 160 zDu:=(z2a 1000)
abbrev znN:=Int×Unit×Int×yB×Int×Int×yC×Int×Int×yA×Int×Int×Unit
abbrev zCg:=Int×Int×yB×Int×Int×yC×Int×Int×Fc
abbrev zob:=Int×Int×yB×Int×Int×yC×Int×Int×yD×Int×Int×Unit
abbrev zCm:=Int×Int×yB×Int×Int×yC×Int×Int
abbrev znY:=Int×yB×Int×Int×yC×Int×Int×Unit
abbrev zCu:=Int×yB×Int×Int
abbrev znK:=Int×yB×Int×Int×Unit
def zh6 (zk:yB->Bool×Int) (n_:Int) (inner:Int) (t13:yB) (t14:Int) (t15:Int) (t20:yC) (t21:Int) (t22:Int) (t32:yA) (t33:Int) (t34:Int) (f:Fc):Wy znN (Fc×Unit) zCg:=.i (decide (t34<t33)) (.i (decide (0<=t34)&&decide (t34<Int.ofNat t32.length)) (.bn (zk (t32.getD t34.toNat default)) λr0=>.h (n_,(),(if r0>inner then r0 else inner),t13,t14,t15,t20,t21,t22,t32,t33,(IntKind.i64.wrap (t34+1)),()) (f,())) .d) (.k (n_,inner,t13,t14,t15,t20,t21,t22,f))
def zqY (zk:yB->Bool×Int) (x:znN) (y:Fc×Unit):=zh6 zk x.1 x.2.2.1 x.2.2.2.1 x.2.2.2.2.1 x.2.2.2.2.2.1 x.2.2.2.2.2.2.1 x.2.2.2.2.2.2.2.1 x.2.2.2.2.2.2.2.2.1 x.2.2.2.2.2.2.2.2.2.1 x.2.2.2.2.2.2.2.2.2.2.1 x.2.2.2.2.2.2.2.2.2.2.2.1 y.1
def zyW (zk:yB->Bool×Int) (n:Nat) (n_:Int) (inner:Int) (t13:yB) (t14:Int) (t15:Int) (t20:yC) (t21:Int) (t22:Int) (t32:yA) (t33:Int) (t34:Int) (f:Fc):=zB (zqY zk) default n (n_,(),inner,t13,t14,t15,t20,t21,t22,t32,t33,t34,()) (f,())
def zIU (r:zCg):LTree ty:=.done (.exit 4) [.lit (.int .i64 r.1),.ptr 256 0,.lit (.int .i64 r.2.1),.sl 107 r.2.2.1,.lit (.int .i64 r.2.2.2.1),.lit (.int .i64 r.2.2.2.2.1),.sl 145 r.2.2.2.2.2.1,.lit (.int .i64 r.2.2.2.2.2.2.1),.lit (.int .i64 r.2.2.2.2.2.2.2.1)] [.box (base.enc 145 r.2.2.2.2.2.2.2.2) false]
def zLo:LL ty znN:=za zj (za (zcI 256 0) (za zj (za (lSl 107) (za zj (za zj (za (lSl 145) (za zj (za zj (za (lSl 51) (za zj (za zj zl)))))))))))
def zhX (zk:yB->Bool×Int) (n_:Int) (inner:Int) (t13:yB) (t14:Int) (t15:Int) (t20:yC) (t21:Int) (t22:Int) (t45:yD) (t46:Int) (t47:Int):Wy zob Unit zCm:=.i (decide (t47<t46)) (.i (decide (0<=t47)&&decide (t47<Int.ofNat t45.length)) (.bn (zk (t45.getD t47.toNat default).Ann) λr2=>.h (n_,(if r2>inner then r2 else inner),t13,t14,t15,t20,t21,t22,t45,t46,(IntKind.i64.wrap (t47+1)),()) ()) .d) (.k (n_,inner,t13,t14,t15,t20,t21,t22))
def zqE (zk:yB->Bool×Int) (x:zob) (y:Unit):=zhX zk x.1 x.2.1 x.2.2.1 x.2.2.2.1 x.2.2.2.2.1 x.2.2.2.2.2.1 x.2.2.2.2.2.2.1 x.2.2.2.2.2.2.2.1 x.2.2.2.2.2.2.2.2.1 x.2.2.2.2.2.2.2.2.2.1 x.2.2.2.2.2.2.2.2.2.2.1
def zyB (zk:yB->Bool×Int) (n:Nat) (n_:Int) (inner:Int) (t13:yB) (t14:Int) (t15:Int) (t20:yC) (t21:Int) (t22:Int) (t45:yD) (t46:Int) (t47:Int):=zB (zqE zk) default n (n_,inner,t13,t14,t15,t20,t21,t22,t45,t46,t47,()) ()
def zIX (r:zCm):LTree ty:=.done (.exit 6) [.lit (.int .i64 r.1),.lit (.int .i64 r.2.1),.sl 107 r.2.2.1,.lit (.int .i64 r.2.2.2.1),.lit (.int .i64 r.2.2.2.2.1),.sl 145 r.2.2.2.2.2.1,.lit (.int .i64 r.2.2.2.2.2.2.1),.lit (.int .i64 r.2.2.2.2.2.2.2)] []
def zLh:LL ty zob:=za zj (za zj (za (lSl 107) (za zj (za zj (za (lSl 145) (za zj (za zj (za (lSl 169) (za zj (za zj zl))))))))))
def ziH (zk:yB->Bool×Int) (n_:Int) (t13:yB) (t14:Int) (t15:Int) (t20:yC) (t21:Int) (t22:Int):Wy znY Unit zCu:=.i (decide (t22<t21)) (.i (decide (0<=t22)&&decide (t22<Int.ofNat t20.length)) (.i ((t20.getD t22.toNat default).At.Kind==0) (.h (n_,t13,t14,t15,t20,t21,(IntKind.i64.wrap (t22+1)),()) ()) (.bn (zyW zk (n_.toNat +Int.toNat 0+t13.length+t14.toNat +t15.toNat +t20.length+t21.toNat +t22.toNat +(t20.getD t22.toNat default).At.Ag.length+(Int.ofNat (t20.getD t22.toNat default).At.Ag.length).toNat +Int.toNat 0+(t20.getD t22.toNat default).At.Ag.length+(t20.getD t22.toNat default).At.Items.length+1) n_ 0 t13 t14 t15 t20 t21 t22 (t20.getD t22.toNat default).At.Ag (Int.ofNat (t20.getD t22.toNat default).At.Ag.length) 0 (FO.mk (At.mk (t20.getD t22.toNat default).At.Kind (t20.getD t22.toNat default).At.Row (t20.getD t22.toNat default).At.Ag (t20.getD t22.toNat default).At.Func (t20.getD t22.toNat default).At.Items (t20.getD t22.toNat default).At.Op (t20.getD t22.toNat default).At.Bd) (t20.getD t22.toNat default).Exp)) λr5=>.bn (zyB zk (r5.1.toNat +r5.2.1.toNat +r5.2.2.1.length+r5.2.2.2.1.toNat +r5.2.2.2.2.1.toNat +r5.2.2.2.2.2.1.length+r5.2.2.2.2.2.2.1.toNat +r5.2.2.2.2.2.2.2.1.toNat +r5.2.2.2.2.2.2.2.2.At.Items.length+(Int.ofNat r5.2.2.2.2.2.2.2.2.At.Items.length).toNat +Int.toNat 0+1) r5.1 r5.2.1 r5.2.2.1 r5.2.2.2.1 r5.2.2.2.2.1 r5.2.2.2.2.2.1 r5.2.2.2.2.2.2.1 r5.2.2.2.2.2.2.2.1 r5.2.2.2.2.2.2.2.2.At.Items (Int.ofNat r5.2.2.2.2.2.2.2.2.At.Items.length) 0) λr4=>.h ((if IntKind.i64.wrap (1+r4.2.1)>r4.1 then IntKind.i64.wrap (1+r4.2.1) else r4.1),(r4.2.2.1),(r4.2.2.2.1),(r4.2.2.2.2.1),(r4.2.2.2.2.2.1),(r4.2.2.2.2.2.2.1),(IntKind.i64.wrap (r4.2.2.2.2.2.2.2+1)),()) ())) .d) (.k (n_,t13,t14,t15))
def zr7 (zk:yB->Bool×Int) (x:znY) (y:Unit):=ziH zk x.1 x.2.1 x.2.2.1 x.2.2.2.1 x.2.2.2.2.1 x.2.2.2.2.2.1 x.2.2.2.2.2.2.1
def zzX (zk:yB->Bool×Int) (n:Nat) (n_:Int) (t13:yB) (t14:Int) (t15:Int) (t20:yC) (t21:Int) (t22:Int):=zB (zr7 zk) default n (n_,t13,t14,t15,t20,t21,t22,()) ()
def zKe (r:zCu):LTree ty:=.done (.exit 2) [.lit (.int .i64 r.1),.sl 107 r.2.1,.lit (.int .i64 r.2.2.1),.lit (.int .i64 r.2.2.2)] []
def zMC:LL ty znY:=za zj (za (lSl 107) (za zj (za zj (za (lSl 145) (za zj (za zj zl))))))
def ziQ (zk:yB->Bool×Int) (n_:Int) (t13:yB) (t14:Int) (t15:Int):Wy znK Unit (Int):=.i (decide (t15<t14)) (.i (decide (0<=t15)&&decide (t15<Int.ofNat t13.length)) (.bn (zzX zk (n_.toNat +t13.length+t14.toNat +t15.toNat +(t13.getD t15.toNat default).Fs.length+(Int.ofNat (t13.getD t15.toNat default).Fs.length).toNat +Int.toNat 0+1) n_ t13 t14 t15 (t13.getD t15.toNat default).Fs (Int.ofNat (t13.getD t15.toNat default).Fs.length) 0) λr8=>.h ((r8.1),(r8.2.1),(r8.2.2.1),(IntKind.i64.wrap (r8.2.2.2+1)),()) ()) .d) (.k n_)
def zsi (zk:yB->Bool×Int) (x:znK) (y:Unit):=ziQ zk x.1 x.2.1 x.2.2.1 x.2.2.2.1
def zzF (zk:yB->Bool×Int) (n:Nat) (n_:Int) (t13:yB) (t14:Int) (t15:Int):=zB (zsi zk) default n (n_,t13,t14,t15,()) ()
def zMz:LL ty znK:=za zj (za (lSl 107) (za zj (za zj zl)))
def zJa (x:znN) (y:Fc×Unit):Nat:=(Int.toNat x.1+Int.toNat x.2.2.1+x.2.2.2.1.length+Int.toNat x.2.2.2.2.1+Int.toNat x.2.2.2.2.2.1+x.2.2.2.2.2.2.1.length+Int.toNat x.2.2.2.2.2.2.2.1+Int.toNat x.2.2.2.2.2.2.2.2.1+x.2.2.2.2.2.2.2.2.2.1.length+Int.toNat x.2.2.2.2.2.2.2.2.2.2.1+Int.toNat x.2.2.2.2.2.2.2.2.2.2.2.1+y.1.At.Ag.length+y.1.At.Items.length+1)
def zJn (x:zob) (y:Unit):Nat:=(Int.toNat x.1+Int.toNat x.2.1+x.2.2.1.length+Int.toNat x.2.2.2.1+Int.toNat x.2.2.2.2.1+x.2.2.2.2.2.1.length+Int.toNat x.2.2.2.2.2.2.1+Int.toNat x.2.2.2.2.2.2.2.1+x.2.2.2.2.2.2.2.2.1.length+Int.toNat x.2.2.2.2.2.2.2.2.2.1+Int.toNat x.2.2.2.2.2.2.2.2.2.2.1+1)
def zKd (x:znY) (y:Unit):Nat:=(Int.toNat x.1+x.2.1.length+Int.toNat x.2.2.1+Int.toNat x.2.2.2.1+x.2.2.2.2.1.length+Int.toNat x.2.2.2.2.2.1+Int.toNat x.2.2.2.2.2.2.1+1)
def zLL (x:znK) (y:Unit):Nat:=(Int.toNat x.1+x.2.1.length+Int.toNat x.2.2.1+Int.toNat x.2.2.2.1+1)
def ziI (zk:yB->Bool×Int):=zbZ base 64 [(159,(zoQ zk))] [] [(3,(kpL [3,13,14,15])),(6,(kpL [3,13,14,15,20,21,22])),(11,(kpL [3,7,8,13,14,15,20,21,22,32,33,34])),(16,(kpL [3,8,13,14,15,20,21,22,45,46,47]))] [(3,1,(kpL [3])),(6,3,(kpL [3,13,14,15])),(11,5,(kpL [3,7,8,13,14,15,20,21,22])),(16,7,(kpL [3,8,13,14,15,20,21,22]))] [(11,spW zLo zP0 (zqY zk) default zIU zJa),(16,spW zLh z6k (zqE zk) default zIX zJn),(6,spW zMC z6k (zr7 zk) default zKe zKd),(3,spW zMz z6k (zsi zk) default zO0 zLL)] []
theorem zIP (zk:yB->Bool×Int):zI (ziI zk) (lp (body f159) 2):=zo (id:=11) (hl:=rfl)
theorem zI3 (zk:yB->Bool×Int):zI (ziI zk) (lp (body f159) 3):=zo (id:=16) (hl:=rfl)
theorem zKr (zk:yB->Bool×Int):zI (ziI zk) (lp (body f159) 1):=zo (id:=6) (hl:=rfl)
theorem zK2 (zk:yB->Bool×Int):zI (ziI zk) (lp (body f159) 0):=zo (id:=3) (hl:=rfl)
def zAF (zk:yB->Bool×Int) (a:yB):Wy0 (Int):=.bn (zzF zk (Int.toNat 0+a.length+(Int.ofNat a.length).toNat +Int.toNat 0+1) 0 a (Int.ofNat a.length) 0) λr10=>.k r10
def zpT (zk:yB->Bool×Int) (a:yB):=(zAF zk a).fin default
theorem zHJ (zk:yB->Bool×Int) (zOd:SdP 159 (zoQ zk)):SdP 159 (zoQ (zpT zk)):=
 sT (cx':=(ziI zk)) (zi ⟨zOd,trivial⟩) call159 func159 (lOK (aC (zK2 zk) (aC (zKr zk) (aC (zIP zk) (aC (zI3 zk) aN)))))
def zZg:Nat->(yB->Bool×Int)
 | 0=>λ_=>(false,default)
 | n+1=>zpT (zZg n)
def zga (n:Nat):yB->Bool×Int:=zZg n
theorem zMB (n:Nat):zga (n+1)=zpT (zga n):=rfl
theorem zS1:∀ n,SdP 159 (zoQ (zga n))
 | 0=>zbk call159 (λ_=>rfl)
 | n+1=>by
  have ih:=zS1 n;exact zHJ _ (ih)
def zyP:yB->Bool×Int:=zga 1000
def zzI:Ab.Spec ty:=zoQ zyP
theorem zJQ:SdP 159 zzI:=(zS1 1000)
def zHX:=zbv base 13 []
def zx4 (f:Fc):Wy0 (Bool):=.i (decide (f.Exp>64)) (.k true) (.k (decide (Int.ofNat f.At.Items.length>1024)))
def zf4 (f:Fc):=(zx4 f).fin default
def zI2:AL base (Fc×Unit):=zd (ze (zbX 145)) zr
def ziE:=zh zI2 λx=>((zf4 x.1).1,zUI (zf4 x.1).2)
theorem zlL:SdP 164 ziE:=
 sT (cx':=zHX) (zi trivial) call164 func164 (lOK aN)
abbrev zeh:=yC×Unit×Int×Int×Unit
def zjg (s:yC) (t7:Int) (t8:Int):Wy zeh Unit (Int⊕Unit):=.i (decide (t8<t7)) (.i (decide (0<=t8)&&decide (t8<Int.ofNat s.length)) (.bn (zf4 (FO.mk (At.mk (s.getD t8.toNat default).At.Kind (s.getD t8.toNat default).At.Row (s.getD t8.toNat default).At.Ag (s.getD t8.toNat default).At.Func (s.getD t8.toNat default).At.Items (s.getD t8.toNat default).At.Op (s.getD t8.toNat default).At.Bd) (s.getD t8.toNat default).Exp)) λr0=>.i (r0) (.k (.inl t8)) (.h (s,(),t7,(IntKind.i64.wrap (t8+1)),()) ())) .d) (.k (.inr ()))
def zdp (x:zeh) (y:Unit):=zjg x.1 x.2.2.1 x.2.2.2.1
def zi7 (n:Nat) (s:yC) (t7:Int) (t8:Int):=zB (zdp) (.inl default) n (s,(),t7,t8,()) ()
def zr4 (r:Int⊕Unit):LTree ty:=.ite (isL r) (.done .ret [.lit (.int .i64 (getL r))] []) (.done (.exit 0) [] [])
def zsL:LL ty zeh:=za (lSl 145) (za (lFn 164 (zl)) (za zj (za zj zl)))
def zrP (x:zeh) (y:Unit):Nat:=(x.1.length+Int.toNat x.2.2.1+Int.toNat x.2.2.2.1+1)
def zi6:=zbZ base 19 [(164,ziE)] [] [(2,(kpL [0,1,7,8]))] [(2,1,[]),(2,0,(kpL [4]))] [(2,spW zsL z6k (zdp) (.inl default) zr4 zrP)] []
theorem zrX:zI zi6 (lp (body f222) 0):=zo (id:=2) (hl:=rfl)
def zjn (s:yC):Wy0 (Int):=.bn (zi7 (s.length+(Int.ofNat s.length).toNat +Int.toNat 0+1) s (Int.ofNat s.length) 0) λr2=>.i (isL r2) (.k (getL r2)) (.k (-1:Int))
def zcN (s:yC):=(zjn s).fin default
def ztI:AL base (yC×Unit×Unit):=zd (ze (vSl 145)) (zd (ze (vFn 164 zc3)) zr)
def ziq:=zh ztI λx=>((zcN x.1).1,zOz (zcN x.1).2)
theorem zq2:SdP 222 ziq:=
 sT (cx':=zi6) (zi ⟨zlL,trivial⟩) call222 func222 (lOK (aC zrX aN))
def zqX:=zbv base 9 [(164,ziE),(222,ziq)]
def zio (s:yC):Wy0 (Bool):=.bn (zcN s) λr0=>.k (decide (r0≥0))
def zcq (s:yC):=(zio s).fin default
def zhe:=zh ztI λx=>((zcq x.1).1,zUI (zcq x.1).2)
theorem zo0:SdP 163 zhe:=
 sT (cx':=zqX) (zi ⟨zlL,zq2,trivial⟩) call163 func163 (lOK aN)
def zLT:=zbv base 12 [(163,zhe),(164,ziE)]
def zAK (t:Term):Wy0 (Bool):=.i (decide (Int.ofNat t.Fs.length>64)) (.k true) (.bn (zcq t.Fs) λr0=>.k r0)
def zkK (t:Term):=(zAK t).fin default
def zOC:AL base (Term×Unit):=zd (ze (zbX 107)) zr
def zkf:=zh zOC λx=>((zkK x.1).1,zUI (zkK x.1).2)
theorem zoB:SdP 162 zkf:=
 sT (cx':=zLT) (zi ⟨zo0,zlL,trivial⟩) call162 func162 (lOK aN)
abbrev zd4:=yB×Unit×Int×Int×Unit
def zrS (s:yB) (t7:Int) (t8:Int):Wy zd4 Unit (Int⊕Unit):=.i (decide (t8<t7)) (.i (decide (0<=t8)&&decide (t8<Int.ofNat s.length)) (.bn (zkK (s.getD t8.toNat default)) λr0=>.i (r0) (.k (.inl t8)) (.h (s,(),t7,(IntKind.i64.wrap (t8+1)),()) ())) .d) (.k (.inr ()))
def ziG (x:zd4) (y:Unit):=zrS x.1 x.2.2.1 x.2.2.2.1
def zsl (n:Nat) (s:yB) (t7:Int) (t8:Int):=zB (ziG) (.inl default) n (s,(),t7,t8,()) ()
def zr2:LL ty zd4:=za (lSl 107) (za (lFn 162 (zl)) (za zj (za zj zl)))
def zrE (x:zd4) (y:Unit):Nat:=(x.1.length+Int.toNat x.2.2.1+Int.toNat x.2.2.2.1+1)
def ziV:=zbZ base 19 [(162,zkf)] [] [(2,(kpL [0,1,7,8]))] [(2,1,[]),(2,0,(kpL [4]))] [(2,spW zr2 z6k (ziG) (.inl default) zr4 zrE)] []
theorem zrz:zI ziV (lp (body f221) 0):=zo (id:=2) (hl:=rfl)
def zsZ (s:yB):Wy0 (Int):=.bn (zsl (s.length+(Int.ofNat s.length).toNat +Int.toNat 0+1) s (Int.ofNat s.length) 0) λr2=>.i (isL r2) (.k (getL r2)) (.k (-1:Int))
def zdF (s:yB):=(zsZ s).fin default
def zsP:AL base (yB×Unit×Unit):=zd (ze (vSl 107)) (zd (ze (vFn 162 zc3)) zr)
def zh8:=zh zsP λx=>((zdF x.1).1,zOz (zdF x.1).2)
theorem zp7:SdP 221 zh8:=
 sT (cx':=ziV) (zi ⟨zoB,trivial⟩) call221 func221 (lOK (aC zrz aN))
def zqa:=zbv base 9 [(162,zkf),(221,zh8)]
def zh3 (s:yB):Wy0 (Bool):=.bn (zdF s) λr0=>.k (decide (r0≥0))
def zci (s:yB):=(zh3 s).fin default
def zgV:=zh zsP λx=>((zci x.1).1,zUI (zci x.1).2)
theorem zoz:SdP 161 zgV:=
 sT (cx':=zqa) (zi ⟨zoB,zp7,trivial⟩) call161 func161 (lOK aN)
def zSi:=zbv base 19 [(159,zzI),(160,zDu),(161,zgV),(162,zkf)]
def zEL (a:yB):Wy0 (Bool):=.i (decide (Int.ofNat a.length>512)) (.k false) (.bn (zyP a) λr2=>.i (decide (r2>8)) (.k false) (.bn (zC0 a) λr1=>.i (decide (r1>4096)) (.k false) (.bn (zci a) λr0=>.k (!r0))))
def zlt (a:yB):=(zEL a).fin default
def ztN:=zh zVa λx=>((zlt x.1).1,zUI (zlt x.1).2)
theorem zzL:SdP 103 ztN:=
 sT (cx':=zSi) (zi ⟨zJQ,zPA,zoz,zoB,trivial⟩) call103 func103 (lOK aN)
abbrev zrl:=yB×Unit×yB×Int×Int×yC×Int×Int×Unit
abbrev zEG:=Bool⊕(yB×yB×Int×Int)
abbrev zrn:=yB×yB×Int×Int×Unit
def zjZ (zD:At->Bool×Bool) (a:yB) (t10:yB) (t11:Int) (t12:Int) (t40:yC) (t41:Int) (t42:Int) (t:Term):Wy zrl (Term×Unit) zEG:=.i (decide (t42<t41)) (.i (decide (0<=t42)&&decide (t42<Int.ofNat t40.length)) (.i (decide ((t40.getD t42.toNat default).Exp<1)) (.k (.inl false)) (.bn (zfH (At.mk (t40.getD t42.toNat default).At.Kind (t40.getD t42.toNat default).At.Row (t40.getD t42.toNat default).At.Ag (t40.getD t42.toNat default).At.Func (t40.getD t42.toNat default).At.Items (t40.getD t42.toNat default).At.Op (t40.getD t42.toNat default).At.Bd)) λr6=>.i (r6) (.i ((t40.getD t42.toNat default).Exp != 1) (.k (.inl false)) (.i (decide (t42>0)) (.i (decide (0<=IntKind.i64.wrap (t42 - 1))&&decide (IntKind.i64.wrap (t42 - 1)<Int.ofNat t.Fs.length)) (.bn (ziU (At.mk (t.Fs.getD (IntKind.i64.wrap (t42 - 1)).toNat default).At.Kind (t.Fs.getD (IntKind.i64.wrap (t42 - 1)).toNat default).At.Row (t.Fs.getD (IntKind.i64.wrap (t42 - 1)).toNat default).At.Ag (t.Fs.getD (IntKind.i64.wrap (t42 - 1)).toNat default).At.Func (t.Fs.getD (IntKind.i64.wrap (t42 - 1)).toNat default).At.Items (t.Fs.getD (IntKind.i64.wrap (t42 - 1)).toNat default).At.Op (t.Fs.getD (IntKind.i64.wrap (t42 - 1)).toNat default).At.Bd) (At.mk (t40.getD t42.toNat default).At.Kind (t40.getD t42.toNat default).At.Row (t40.getD t42.toNat default).At.Ag (t40.getD t42.toNat default).At.Func (t40.getD t42.toNat default).At.Items (t40.getD t42.toNat default).At.Op (t40.getD t42.toNat default).At.Bd)) λr1=>.i (decide (r1≥0)) (.k (.inl false)) (.bn (zD (At.mk (t40.getD t42.toNat default).At.Kind (t40.getD t42.toNat default).At.Row (t40.getD t42.toNat default).At.Ag (t40.getD t42.toNat default).At.Func (t40.getD t42.toNat default).At.Items (t40.getD t42.toNat default).At.Op (t40.getD t42.toNat default).At.Bd)) λr0=>.i (!r0) (.k (.inl false)) (.h (a,(),t10,t11,t12,t40,t41,(IntKind.i64.wrap (t42+1)),()) (t,())))) .d) (.bn (zD (At.mk (t40.getD t42.toNat default).At.Kind (t40.getD t42.toNat default).At.Row (t40.getD t42.toNat default).At.Ag (t40.getD t42.toNat default).At.Func (t40.getD t42.toNat default).At.Items (t40.getD t42.toNat default).At.Op (t40.getD t42.toNat default).At.Bd)) λr2=>.i (!r2) (.k (.inl false)) (.h (a,(),t10,t11,t12,t40,t41,(IntKind.i64.wrap (t42+1)),()) (t,()))))) (.i (decide (t42>0)) (.i (decide (0<=IntKind.i64.wrap (t42 - 1))&&decide (IntKind.i64.wrap (t42 - 1)<Int.ofNat t.Fs.length)) (.bn (ziU (At.mk (t.Fs.getD (IntKind.i64.wrap (t42 - 1)).toNat default).At.Kind (t.Fs.getD (IntKind.i64.wrap (t42 - 1)).toNat default).At.Row (t.Fs.getD (IntKind.i64.wrap (t42 - 1)).toNat default).At.Ag (t.Fs.getD (IntKind.i64.wrap (t42 - 1)).toNat default).At.Func (t.Fs.getD (IntKind.i64.wrap (t42 - 1)).toNat default).At.Items (t.Fs.getD (IntKind.i64.wrap (t42 - 1)).toNat default).At.Op (t.Fs.getD (IntKind.i64.wrap (t42 - 1)).toNat default).At.Bd) (At.mk (t40.getD t42.toNat default).At.Kind (t40.getD t42.toNat default).At.Row (t40.getD t42.toNat default).At.Ag (t40.getD t42.toNat default).At.Func (t40.getD t42.toNat default).At.Items (t40.getD t42.toNat default).At.Op (t40.getD t42.toNat default).At.Bd)) λr4=>.i (decide (r4≥0)) (.k (.inl false)) (.bn (zD (At.mk (t40.getD t42.toNat default).At.Kind (t40.getD t42.toNat default).At.Row (t40.getD t42.toNat default).At.Ag (t40.getD t42.toNat default).At.Func (t40.getD t42.toNat default).At.Items (t40.getD t42.toNat default).At.Op (t40.getD t42.toNat default).At.Bd)) λr3=>.i (!r3) (.k (.inl false)) (.h (a,(),t10,t11,t12,t40,t41,(IntKind.i64.wrap (t42+1)),()) (t,())))) .d) (.bn (zD (At.mk (t40.getD t42.toNat default).At.Kind (t40.getD t42.toNat default).At.Row (t40.getD t42.toNat default).At.Ag (t40.getD t42.toNat default).At.Func (t40.getD t42.toNat default).At.Items (t40.getD t42.toNat default).At.Op (t40.getD t42.toNat default).At.Bd)) λr5=>.i (!r5) (.k (.inl false)) (.h (a,(),t10,t11,t12,t40,t41,(IntKind.i64.wrap (t42+1)),()) (t,())))))) .d) (.k (.inr (a,t10,t11,t12)))
def zuA (zD:At->Bool×Bool) (x:zrl) (y:Term×Unit):=zjZ zD x.1 x.2.2.1 x.2.2.2.1 x.2.2.2.2.1 x.2.2.2.2.2.1 x.2.2.2.2.2.2.1 x.2.2.2.2.2.2.2.1 y.1
def zur (zD:At->Bool×Bool) (n:Nat) (a:yB) (t10:yB) (t11:Int) (t12:Int) (t40:yC) (t41:Int) (t42:Int) (t:Term):=zB (zuA zD) (.inl default) n (a,(),t10,t11,t12,t40,t41,t42,()) (t,())
def zN5 (r:zEG):LTree ty:=.ite (isL r) (.done .ret [.lit (.bool (getL r))] []) (.done (.exit 2) [.sl 107 (getR r).1,.sl 107 (getR r).2.1,.lit (.int .i64 (getR r).2.2.1),.lit (.int .i64 (getR r).2.2.2)] [])
def zPQ:LL ty zrl:=za (lSl 107) (za (zcI 340 0) (za (lSl 107) (za zj (za zj (za (lSl 145) (za zj (za zj zl)))))))
def zQn:BL ty (Term×Unit):=zd7 (zdv (λx=>(⟨x.1,x.2.1⟩:Term)) (λx=>(x.Cf,x.Fs,())) (λ_=>rfl) (za (zT .i64) (za (lSl 145) zl))) false (zbe)
def zj4 (zD:At->Bool×Bool) (a:yB) (t10:yB) (t11:Int) (t12:Int):Wy zrn Unit (Bool⊕Unit):=.i (decide (t12<t11)) (.i (decide (0<=t12)&&decide (t12<Int.ofNat t10.length)) (.i (decide ((t10.getD t12.toNat default).Cf<1)) (.k (.inl false)) (.i (decide ((t10.getD t12.toNat default).Cf>1152921504606846976)) (.k (.inl false)) (.i (decide (t12>0)) (.i (decide (0<=IntKind.i64.wrap (t12 - 1))&&decide (IntKind.i64.wrap (t12 - 1)<Int.ofNat a.length)) (.bn (zbW (a.getD (IntKind.i64.wrap (t12 - 1)).toNat default) (t10.getD t12.toNat default)) λr15=>.i (decide (r15≥0)) (.k (.inl false)) (.bn (zur zD (a.length+t10.length+t11.toNat +t12.toNat +(t10.getD t12.toNat default).Fs.length+(Int.ofNat (t10.getD t12.toNat default).Fs.length).toNat +Int.toNat 0+(t10.getD t12.toNat default).Fs.length+1) a t10 t11 t12 (t10.getD t12.toNat default).Fs (Int.ofNat (t10.getD t12.toNat default).Fs.length) 0 (t10.getD t12.toNat default)) λr14=>.i (isL r14) (.k (.inl (getL r14))) (.h ((getR r14).1,(getR r14).2.1,(getR r14).2.2.1,(IntKind.i64.wrap ((getR r14).2.2.2+1)),()) ()))) .d) (.bn (zur zD (a.length+t10.length+t11.toNat +t12.toNat +(t10.getD t12.toNat default).Fs.length+(Int.ofNat (t10.getD t12.toNat default).Fs.length).toNat +Int.toNat 0+(t10.getD t12.toNat default).Fs.length+1) a t10 t11 t12 (t10.getD t12.toNat default).Fs (Int.ofNat (t10.getD t12.toNat default).Fs.length) 0 (t10.getD t12.toNat default)) λr16=>.i (isL r16) (.k (.inl (getL r16))) (.h ((getR r16).1,(getR r16).2.1,(getR r16).2.2.1,(IntKind.i64.wrap ((getR r16).2.2.2+1)),()) ()))))) .d) (.k (.inr ()))
def zuo (zD:At->Bool×Bool) (x:zrn) (y:Unit):=zj4 zD x.1 x.2.1 x.2.2.1 x.2.2.2.1
def zBW (zD:At->Bool×Bool) (n:Nat) (a:yB) (t10:yB) (t11:Int) (t12:Int):=zB (zuo zD) (.inl default) n (a,t10,t11,t12,()) ()
def zPP:LL ty zrn:=za (lSl 107) (za (lSl 107) (za zj (za zj zl)))
def zNM (x:zrl) (y:Term×Unit):Nat:=(x.1.length+x.2.2.1.length+Int.toNat x.2.2.2.1+Int.toNat x.2.2.2.2.1+x.2.2.2.2.2.1.length+Int.toNat x.2.2.2.2.2.2.1+Int.toNat x.2.2.2.2.2.2.2.1+y.1.Fs.length+1)
def zOa (x:zrn) (y:Unit):Nat:=(x.1.length+x.2.1.length+Int.toNat x.2.2.1+Int.toNat x.2.2.2.1+1)
def zuR (zD:At->Bool×Bool):=zbZ base 85 [(103,ztN),(104,zit),(105,zjI),(106,zmn),(107,(zmS zD))] [] [(4,(kpL [0,10,11,12])),(9,(kpL [0,4,10,11,12,40,41,42]))] [(4,1,[]),(4,0,(kpL [2])),(9,3,(kpL [0,10,11,12])),(9,0,(kpL [2]))] [(9,spW zPQ zQn (zuA zD) (.inl default) zN5 zNM),(4,spW zPP z6k (zuo zD) (.inl default) znl zOa)] []
theorem zNz (zD:At->Bool×Bool):zI (zuR zD) (lp (body f52) 1):=zo (id:=9) (hl:=rfl)
theorem zNw (zD:At->Bool×Bool):zI (zuR zD) (lp (body f52) 0):=zo (id:=4) (hl:=rfl)
def zCZ (zD:At->Bool×Bool) (a:yB):Wy0 (Bool):=.bn (zlt a) λr21=>.i (!r21) (.k false) (.bn (zBW zD (a.length+a.length+(Int.ofNat a.length).toNat +Int.toNat 0+1) a a (Int.ofNat a.length) 0) λr20=>.i (isL r20) (.k (getL r20)) (.k true))
def znu (zD:At->Bool×Bool) (a:yB):=(zCZ zD a).fin default
theorem zKh (zD:At->Bool×Bool) (zLc:SdP 107 (zmS zD)):SdP 52 (zhW (znu zD)):=
 sT (cx':=(zuR zD)) (zi ⟨zzL,zlI,zm4,ztS,zLc,trivial⟩) call52 func52 (lOK (aC (zNw zD) (aC (zNz zD) aN)))
def z3s:=zbv base 36 []
def zTd (v:Value):Wy0 (Bool):=.i (v.Kind==0) (.k (v.Text.toList==(ByteArray.mk #[]).toList)) (.i (v.Kind==1) (.i (v.Int==0) (.k (decide (Int.ofNat v.Text.size<=255))) (.k false)) (.i (v.Kind==2) (.i (v.Int==0) (.k (v.Text.toList==(ByteArray.mk #[]).toList)) (.i (v.Int==1) (.k (v.Text.toList==(ByteArray.mk #[]).toList)) (.k false))) (.k false)))
def zpX (v:Value):=(zTd v).fin default
def z6m:AL base (Value×Unit):=zd (ze (zbX 79)) zr
def zqS:=zh z6m λx=>((zpX x.1).1,zUI (zpX x.1).2)
theorem zt1:SdP 91 zqS:=
 sT (cx':=z3s) (zi trivial) call91 func91 (lOK aN)
def zKc:=zbv base 27 [(91,zqS)]
def zzR (w:Wd) (p1:Value) (p2:Int):Wy0 (Bool):=.bn (zpX w.Value) λr0=>.i (!r0) (.k true) (.i (w.Value.Kind != p1.Kind) (.k true) (.i (p2==0) (.k (w.Value.Int != 1)) (.k false)))
def zhC (w:Wd) (p1:Value) (p2:Int):=(zzR w p1 p2).fin default
def zMd:AL base (Wd×Value×(Int×Unit)×Unit):=zd (ze (zbX 169)) (zd (ze (z2i 79)) (zd (ze (z3k (zzd zgq zc3))) zr))
def zjJ:=zh zMd λx=>((zhC x.1 x.2.1 x.2.2.1.1).1,zUI (zhC x.1 x.2.1 x.2.2.1.1).2)
theorem znp:SdP 229 zjJ:=
 sT (cx':=zKc) (zi ⟨zt1,trivial⟩) call229 func229 (lOK aN)
abbrev zdy:=yD×(Value×(Int×Unit)×Unit)×Int×Int×Unit
def zp9 (s:yD) (f_0:Value) (f_1:Int) (t7:Int) (t8:Int):Wy zdy Unit (Int⊕Unit):=.i (decide (t8<t7)) (.i (decide (0<=t8)&&decide (t8<Int.ofNat s.length)) (.bn (zhC (s.getD t8.toNat default) f_0 f_1) λr0=>.i (r0) (.k (.inl t8)) (.h (s,(f_0,(f_1,()),()),t7,(IntKind.i64.wrap (t8+1)),()) ())) .d) (.k (.inr ()))
def zhD (x:zdy) (y:Unit):=zp9 x.1 x.2.1.1 x.2.1.2.1.1 x.2.2.1 x.2.2.2.1
def zqu (n:Nat) (s:yD) (f_0:Value) (f_1:Int) (t7:Int) (t8:Int):=zB (zhD) (.inl default) n (s,(f_0,(f_1,()),()),t7,t8,()) ()
def zqc:LL ty zdy:=za (lSl 169) (za (lFn 229 (za (zG3 (zdv (λx=>(⟨x.1,x.2.1,x.2.2.1⟩:Value)) (λx=>(x.Kind,x.Int,x.Text,())) (λ_=>rfl) (za zj (za zj (za ztx zl)))) 0) (za (zG3 (za zj zl) 0) zl))) (za zj (za zj zl)))
def zpQ (x:zdy) (y:Unit):Nat:=(x.1.length+Int.toNat x.2.1.2.1.1+Int.toNat x.2.2.1+Int.toNat x.2.2.2.1+1)
def zhs:=zbZ base 19 [(229,zjJ)] [] [(2,(kpL [0,1,7,8]))] [(2,1,[]),(2,0,(kpL [4]))] [(2,spW zqc z6k (zhD) (.inl default) zr4 zpQ)] []
theorem zpG:zI zhs (lp (body f228) 0):=zo (id:=2) (hl:=rfl)
def zqK (s:yD) (f_0:Value) (f_1:Int):Wy0 (Int):=.bn (zqu (s.length+f_1.toNat +(Int.ofNat s.length).toNat +Int.toNat 0+1) s f_0 f_1 (Int.ofNat s.length) 0) λr2=>.i (isL r2) (.k (getL r2)) (.k (-1:Int))
def zdb (s:yD) (f_0:Value) (f_1:Int):=(zqK s f_0 f_1).fin default
def zqT:AL base (yD×(Value×(Int×Unit)×Unit)×Unit):=zd (ze (vSl 169)) (zd (ze (vFn 229 (zzd (z2i 79) (zzd (z3k (zzd zgq zc3)) zc3)))) zr)
def zg1:=zh zqT λx=>((zdb x.1 x.2.1.1 x.2.1.2.1.1).1,zOz (zdb x.1 x.2.1.1 x.2.1.2.1.1).2)
theorem zoj:SdP 228 zg1:=
 sT (cx':=zhs) (zi ⟨znp,trivial⟩) call228 func228 (lOK (aC zpG aN))
def zop:=zbv base 9 [(228,zg1),(229,zjJ)]
def zg0 (s:yD) (f_0:Value) (f_1:Int):Wy0 (Bool):=.bn (zdb s f_0 f_1) λr0=>.k (decide (r0≥0))
def zbw (s:yD) (f_0:Value) (f_1:Int):=(zg0 s f_0 f_1).fin default
def zfW:=zh zqT λx=>((zbw x.1 x.2.1.1 x.2.1.2.1.1).1,zUI (zbw x.1 x.2.1.1 x.2.1.2.1.1).2)
theorem zmP:SdP 178 zfW:=
 sT (cx':=zop) (zi ⟨zoj,znp,trivial⟩) call178 func178 (lOK aN)
def zPp:=zbv base 43 [(91,zqS),(178,zfW),(229,zjJ)]
def zDW (fn:Int) (items:yD) (op:Int) (bound:Value):Wy0 (Bool):=.i (decide (fn<0)) (.k false) (.i (decide (fn>3)) (.k false) (.i (decide (op<5)) (.k false) (.i (decide (op>10)) (.k false) (.bn (zpX bound) λr3=>.i (!r3) (.k false) (.i (fn==0) (.i (bound.Kind != 0) (.k false) (.bn (zbw items bound fn) λr0=>.k (!r0))) (.i (fn==1) (.i (bound.Kind != 0) (.k false) (.bn (zbw items bound fn) λr1=>.k (!r1))) (.bn (zbw items bound fn) λr2=>.k (!r2))))))))
def zkc (fn:Int) (items:yD) (op:Int) (bound:Value):=(zDW fn items op bound).fin default
def zRB:AL base (Int×yD×Int×Value×Unit):=zd (ze zgq) (zd (ze (vSl 169)) (zd (ze zgq) (zd (ze (zbX 79)) zr)))
def zrW:=zh zRB λx=>((zkc x.1 x.2.1 x.2.2.1 x.2.2.2.1).1,zUI (zkc x.1 x.2.1 x.2.2.1 x.2.2.2.1).2)
theorem zyI:SdP 181 zrW:=
 sT (cx':=zPp) (zi ⟨zt1,zmP,znp,trivial⟩) call181 func181 (lOK aN)
def zFD:=zbv base 7 []
def zvh (t:Term):Wy0 (Bool):=.k (Int.ofNat t.Fs.length==0)
def zhi (t:Term):=(zvh t).fin default
def zhf:=zh zOC λx=>((zhi x.1).1,zUI (zhi x.1).2)
theorem zks:SdP 227 zhf:=
 sT (cx':=zFD) (zi trivial) call227 func227 (lOK aN)
abbrev zd2:=yB×Unit×Int×Int×Unit
def zsf (s:yB) (t7:Int) (t8:Int):Wy zd2 Unit (Int⊕Unit):=.i (decide (t8<t7)) (.i (decide (0<=t8)&&decide (t8<Int.ofNat s.length)) (.i ((zhi (s.getD t8.toNat default)).2) (.k (.inl t8)) (.h (s,(),t7,(IntKind.i64.wrap (t8+1)),()) ())) .d) (.k (.inr ()))
def ziK (x:zd2) (y:Unit):=zsf x.1 x.2.2.1 x.2.2.2.1
def zsc (n:Nat) (s:yB) (t7:Int) (t8:Int):=zB (ziK) (.inl default) n (s,(),t7,t8,()) ()
def zsg:LL ty zd2:=za (lSl 107) (za (lFn 227 (zl)) (za zj (za zj zl)))
def zru (x:zd2) (y:Unit):Nat:=(x.1.length+Int.toNat x.2.2.1+Int.toNat x.2.2.2.1+1)
def ziJ:=zbZ base 19 [(227,zhf)] [] [(2,(kpL [0,1,7,8]))] [(2,1,[]),(2,0,(kpL [4]))] [(2,spW zsg z6k (ziK) (.inl default) zr4 zru)] []
theorem zrF:zI ziJ (lp (body f221) 0):=zo (id:=2) (hl:=rfl)
def ztp (s:yB):Wy0 (Int):=.bn (zsc (s.length+(Int.ofNat s.length).toNat +Int.toNat 0+1) s (Int.ofNat s.length) 0) λr0=>.i (isL r0) (.k (getL r0)) (.k (-1:Int))
def zdH (s:yB):=(ztp s).fin default
def ztr:AL base (yB×Unit×Unit):=zd (ze (vSl 107)) (zd (ze (vFn 227 zc3)) zr)
def zhT:=zh ztr λx=>((zdH x.1).1,zOz (zdH x.1).2)
theorem zqb:SdP 221 zhT:=
 sT (cx':=ziJ) (zi ⟨zks,trivial⟩) call221 func221 (lOK (aC zrF aN))
def zp6:=zbv base 9 [(221,zhT),(227,zhf)]
def zhS (s:yB):Wy0 (Bool):=.bn (zdH s) λr0=>.k (decide (r0≥0))
def zde (s:yB):=(zhS s).fin default
def zgS:=zh ztr λx=>((zde x.1).1,zUI (zde x.1).2)
theorem zok:SdP 161 zgS:=
 sT (cx':=zp6) (zi ⟨zqb,zks,trivial⟩) call161 func161 (lOK aN)
def zI1:=zbv base 5 [(161,zgS),(227,zhf)]
def zyG (a:yB):Wy0 (Bool):=.bn (zde a) λr0=>.k r0
def zeY (a:yB):=(zyG a).fin default
def zne:=zh zVa λx=>((zeY x.1).1,zUI (zeY x.1).2)
theorem zuO:SdP 177 zne:=
 sT (cx':=zI1) (zi ⟨zok,zks,trivial⟩) call177 func177 (lOK aN)
def zLu:=zbv base 14 []
def zzM (a:yB):Wy0 (Bool):=.i (Int.ofNat a.length==1) (.i (decide ((0:Int)<=(0:Int))&&decide (0<Int.ofNat a.length)) (.k (Int.ofNat (a.getD (Int.toNat 0) default).Fs.length==0)) .d) (.k false)
def zhy (a:yB):=(zzM a).fin default
def zoh:=zh zVa λx=>((zhy x.1).1,zUI (zhy x.1).2)
theorem zvi:SdP 175 zoh:=
 sT (cx':=zLu) (zi trivial) call175 func175 (lOK aN)
def zRP:=zbv base 42 [(105,zjI)]
def zEW (a:yB):Wy0 (Bool):=.i (Int.ofNat a.length != 1) (.k false) (.i (decide ((0:Int)<=(0:Int))&&decide (0<Int.ofNat a.length)) (.i ((a.getD (Int.toNat 0) default).Cf != 1) (.k false) (.i (decide ((0:Int)<=(0:Int))&&decide (0<Int.ofNat a.length)) (.i (Int.ofNat (a.getD (Int.toNat 0) default).Fs.length != 1) (.k false) (.i (decide ((0:Int)<=(0:Int))&&decide (0<Int.ofNat a.length)) (.i (decide ((0:Int)<=(0:Int))&&decide (0<Int.ofNat (a.getD (Int.toNat 0) default).Fs.length)) (.i (((a.getD (Int.toNat 0) default).Fs.getD (Int.toNat 0) default).Exp==1) (.i (((a.getD (Int.toNat 0) default).Fs.getD (Int.toNat 0) default).At.Kind==2) (.k true) (.bn (zfH (At.mk ((a.getD (Int.toNat 0) default).Fs.getD (Int.toNat 0) default).At.Kind ((a.getD (Int.toNat 0) default).Fs.getD (Int.toNat 0) default).At.Row ((a.getD (Int.toNat 0) default).Fs.getD (Int.toNat 0) default).At.Ag ((a.getD (Int.toNat 0) default).Fs.getD (Int.toNat 0) default).At.Func ((a.getD (Int.toNat 0) default).Fs.getD (Int.toNat 0) default).At.Items ((a.getD (Int.toNat 0) default).Fs.getD (Int.toNat 0) default).At.Op ((a.getD (Int.toNat 0) default).Fs.getD (Int.toNat 0) default).At.Bd)) λr0=>.k r0)) (.k false)) .d) .d)) .d)) .d)
def zlu (a:yB):=(zEW a).fin default
def ztP:=zh zVa λx=>((zlu x.1).1,zUI (zlu x.1).2)
theorem zzN:SdP 176 ztP:=
 sT (cx':=zRP) (zi ⟨zm4,trivial⟩) call176 func176 (lOK aN)
def z1L:=zbv base 11 []
def zP7 (id:RowID):Wy0 (Bool):=.i (decide (id.Table≥1)) (.k (decide (id.Seq≥1))) (.k false)
def zqw (id:RowID):=(zP7 id).fin default
def zt6:=zh z95 λx=>((zqw x.1).1,zUI (zqw x.1).2)
theorem zyV:SdP 116 zt6:=
 sT (cx':=z1L) (zi trivial) call116 func116 (lOK aN)
abbrev zeT:=yD×Unit×Int×Unit
def zeo (x_:yD) (i:Int):Wy zeT Unit (Bool⊕Unit):=.i (decide (i>0)) (.i (decide (0<=i)&&decide (i<Int.ofNat x_.length)) (.i (decide (0<=IntKind.i64.wrap (i - 1))&&decide (IntKind.i64.wrap (i - 1)<Int.ofNat x_.length)) (.bn (z6 (x_.getD i.toNat default) (x_.getD (IntKind.i64.wrap (i - 1)).toNat default)) λr0=>.i (decide (r0<0)) (.k (.inl false)) (.h (x_,(),(IntKind.i64.wrap (i - 1)),()) ())) .d) .d) (.k (.inr ()))
def zht (x:zeT) (y:Unit):=zeo x.1 x.2.2.1
def zen (n:Nat) (x_:yD) (i:Int):=zB (zht) (.inl default) n (x_,(),i,()) ()
def zqf:LL ty zeT:=za (lSl 169) (za (lFn 172 (zl)) (za zj zl))
def zhB:=zbZ base 25 [(172,zfy)] [] [(2,(kpL [0,1,5]))] [(2,1,[]),(2,0,(kpL [4]))] [(2,spW zqf z6k (zht) (.inl default) znl λx y=>(x.1.length+Int.toNat x.2.2.1+1))] []
theorem zpS:zI zhB (lp (body f180) 0):=zo (id:=2) (hl:=rfl)
def zia (x_:yD):Wy0 (Bool):=.bn (zen (x_.length+(IntKind.i64.wrap (Int.ofNat x_.length - 1)).toNat +1) x_ (IntKind.i64.wrap (Int.ofNat x_.length - 1))) λr2=>.i (isL r2) (.k (getL r2)) (.k true)
def zch (x_:yD):=(zia x_).fin default
def zqy:AL base (yD×Unit×Unit):=zd (ze (vSl 169)) (zd (ze (vFn 172 zc3)) zr)
def zgY:=zh zqy λx=>((zch x.1).1,zUI (zch x.1).2)
theorem zos:SdP 180 zgY:=
 sT (cx':=zhB) (zi ⟨zhG,trivial⟩) call180 func180 (lOK (aC zpS aN))
def zcQ (zb:yA->Bool×Bool) (zf:yB->Bool×Bool) (zc:yD->Bool×Bool) (zg:Wd->Bool×Bool):=zbv base 149 [(115,znL),(116,zt6),(172,zfy),(173,(zcl zb)),(174,(zhW zf)),(175,zoh),(176,ztP),(177,zne),(178,(zcH zc)),(179,(zdn zg)),(180,zgY),(181,zrW)]
def zca (zb:yA->Bool×Bool) (zf:yB->Bool×Bool) (zc:yD->Bool×Bool) (zg:Wd->Bool×Bool) (x_:At):Wy0 (Bool):=.i (x_.Kind==0) (.i (x_.Func != 0) (.k false) (.i (Int.ofNat x_.Items.length != 0) (.k false) (.i (x_.Op != 0) (.k false) (.i (!(x_.Bd.Kind==0&&(x_.Bd.Int==0&&(x_.Bd.Text.toList==(ByteArray.mk #[]).toList&&true)))) (.k false) (.bn (zb x_.Ag) λr1=>.i (r1) (.k false) (.bn (zqw x_.Row) λr0=>.i (r0) (.k (Int.ofNat x_.Ag.length==0)) (.k false))))))) (.i (x_.Kind==1) (.i (x_.Func != 0) (.k false) (.i (Int.ofNat x_.Items.length != 0) (.k false) (.i (x_.Op != 0) (.k false) (.i (!(x_.Bd.Kind==0&&(x_.Bd.Int==0&&(x_.Bd.Text.toList==(ByteArray.mk #[]).toList&&true)))) (.k false) (.i (!(x_.Row.Table==0&&(x_.Row.Seq==0&&true))) (.k false) (.bn (zb x_.Ag) λr3=>.i (r3) (.k false) (.i (Int.ofNat x_.Ag.length==2) (.i (decide ((0:Int)<=(0:Int))&&decide (0<Int.ofNat x_.Ag.length)) (.i (decide ((0:Int)<=(1:Int))&&decide (1<Int.ofNat x_.Ag.length)) (.bn (zhU (x_.Ag.getD (Int.toNat 0) default) (x_.Ag.getD (Int.toNat 1) default)) λr2=>.k (!r2)) .d) .d) (.k false)))))))) (.i (x_.Kind==2) (.i (x_.Func != 0) (.k false) (.i (Int.ofNat x_.Items.length != 0) (.k false) (.i (x_.Op != 0) (.k false) (.i (!(x_.Bd.Kind==0&&(x_.Bd.Int==0&&(x_.Bd.Text.toList==(ByteArray.mk #[]).toList&&true)))) (.k false) (.i (!(x_.Row.Table==0&&(x_.Row.Seq==0&&true))) (.k false) (.bn (zb x_.Ag) λr6=>.i (r6) (.k false) (.i (Int.ofNat x_.Ag.length==1) (.i (decide ((0:Int)<=(0:Int))&&decide (0<Int.ofNat x_.Ag.length)) (.bn (zhy (x_.Ag.getD (Int.toNat 0) default)) λr5=>.i (!r5) (.i (decide ((0:Int)<=(0:Int))&&decide (0<Int.ofNat x_.Ag.length)) (.bn (zlu (x_.Ag.getD (Int.toNat 0) default)) λr4=>.k (!r4)) .d) (.k false)) .d) (.k false)))))))) (.i (x_.Kind==3) (.i (x_.Func != 0) (.k false) (.i (Int.ofNat x_.Items.length != 0) (.k false) (.i (x_.Op != 0) (.k false) (.i (!(x_.Bd.Kind==0&&(x_.Bd.Int==0&&(x_.Bd.Text.toList==(ByteArray.mk #[]).toList&&true)))) (.k false) (.i (!(x_.Row.Table==0&&(x_.Row.Seq==0&&true))) (.k false) (.bn (zb x_.Ag) λr8=>.i (r8) (.k false) (.i (Int.ofNat x_.Ag.length==1) (.i (decide ((0:Int)<=(0:Int))&&decide (0<Int.ofNat x_.Ag.length)) (.bn (zeY (x_.Ag.getD (Int.toNat 0) default)) λr7=>.k (!r7)) .d) (.k false)))))))) (.i (x_.Kind==4) (.i (!(x_.Row.Table==0&&(x_.Row.Seq==0&&true))) (.k false) (.bn (zb x_.Ag) λr12=>.i (r12) (.k false) (.bn (zc x_.Items) λr11=>.i (Int.ofNat x_.Ag.length==0) (.i (decide (Int.ofNat x_.Items.length>0)) (.i (!r11) (.bn (zch x_.Items) λr10=>.i (r10) (.bn (zkc x_.Func x_.Items x_.Op x_.Bd) λr9=>.k r9) (.k false)) (.k false)) (.k false)) (.k false)))) (.i (x_.Func != 0) (.k false) (.i (Int.ofNat x_.Items.length != 0) (.k false) (.i (x_.Op != 0) (.k false) (.i (!(x_.Bd.Kind==0&&(x_.Bd.Int==0&&(x_.Bd.Text.toList==(ByteArray.mk #[]).toList&&true)))) (.k false) (.i (!(x_.Row.Table==0&&(x_.Row.Seq==0&&true))) (.k false) (.bn (zb x_.Ag) λr14=>.i (r14) (.k false) (.k false)))))))))))
def zjC (zb:yA->Bool×Bool) (zf:yB->Bool×Bool) (zc:yD->Bool×Bool) (zg:Wd->Bool×Bool) (x_:At):=(zca zb zf zc zg x_).fin default
theorem zGW (zb:yA->Bool×Bool) (zf:yB->Bool×Bool) (zc:yD->Bool×Bool) (zg:Wd->Bool×Bool) (v_Row:RowID) (v_Args:yA) (v_Func:Int) (v_Items:yD) (v_Op:Int) (v_Bound:Value)  :zew (zcQ zb zf zc zg) f107 (body f107) ⟨[.pure],[]⟩ [.pure (.agg (base.enc 143 (At.mk (Int.ofNat 0) v_Row v_Args v_Func v_Items v_Op v_Bound)))]=(zca zb zf zc zg (At.mk (Int.ofNat 0) v_Row v_Args v_Func v_Items v_Op v_Bound)).ev noH (λr=>some (zUI r)) none:=by kernel_rfl
theorem zHm (zb:yA->Bool×Bool) (zf:yB->Bool×Bool) (zc:yD->Bool×Bool) (zg:Wd->Bool×Bool) (v_Row:RowID) (v_Args:yA) (v_Func:Int) (v_Items:yD) (v_Op:Int) (v_Bound:Value)  :zew (zcQ zb zf zc zg) f107 (body f107) ⟨[.pure],[]⟩ [.pure (.agg (base.enc 143 (At.mk (Int.ofNat 1) v_Row v_Args v_Func v_Items v_Op v_Bound)))]=(zca zb zf zc zg (At.mk (Int.ofNat 1) v_Row v_Args v_Func v_Items v_Op v_Bound)).ev noH (λr=>some (zUI r)) none:=by kernel_rfl
theorem zGJ (zb:yA->Bool×Bool) (zf:yB->Bool×Bool) (zc:yD->Bool×Bool) (zg:Wd->Bool×Bool) (v_Row:RowID) (v_Args:yA) (v_Func:Int) (v_Items:yD) (v_Op:Int) (v_Bound:Value)  :zew (zcQ zb zf zc zg) f107 (body f107) ⟨[.pure],[]⟩ [.pure (.agg (base.enc 143 (At.mk (Int.ofNat 2) v_Row v_Args v_Func v_Items v_Op v_Bound)))]=(zca zb zf zc zg (At.mk (Int.ofNat 2) v_Row v_Args v_Func v_Items v_Op v_Bound)).ev noH (λr=>some (zUI r)) none:=by kernel_rfl
theorem zF8 (zb:yA->Bool×Bool) (zf:yB->Bool×Bool) (zc:yD->Bool×Bool) (zg:Wd->Bool×Bool) (v_Row:RowID) (v_Args:yA) (v_Func:Int) (v_Items:yD) (v_Op:Int) (v_Bound:Value)  :zew (zcQ zb zf zc zg) f107 (body f107) ⟨[.pure],[]⟩ [.pure (.agg (base.enc 143 (At.mk (Int.ofNat 3) v_Row v_Args v_Func v_Items v_Op v_Bound)))]=(zca zb zf zc zg (At.mk (Int.ofNat 3) v_Row v_Args v_Func v_Items v_Op v_Bound)).ev noH (λr=>some (zUI r)) none:=by kernel_rfl
theorem zHi (zb:yA->Bool×Bool) (zf:yB->Bool×Bool) (zc:yD->Bool×Bool) (zg:Wd->Bool×Bool) (v_Row:RowID) (v_Args:yA) (v_Func:Int) (v_Items:yD) (v_Op:Int) (v_Bound:Value)  :zew (zcQ zb zf zc zg) f107 (body f107) ⟨[.pure],[]⟩ [.pure (.agg (base.enc 143 (At.mk (Int.ofNat 4) v_Row v_Args v_Func v_Items v_Op v_Bound)))]=(zca zb zf zc zg (At.mk (Int.ofNat 4) v_Row v_Args v_Func v_Items v_Op v_Bound)).ev noH (λr=>some (zUI r)) none:=by kernel_rfl
theorem zGt (zb:yA->Bool×Bool) (zf:yB->Bool×Bool) (zc:yD->Bool×Bool) (zg:Wd->Bool×Bool) (n:Nat) (v_Row:RowID) (v_Args:yA) (v_Func:Int) (v_Items:yD) (v_Op:Int) (v_Bound:Value)  :zew (zcQ zb zf zc zg) f107 (body f107) ⟨[.pure],[]⟩ [.pure (.agg (base.enc 143 (At.mk (Int.ofNat (n+5)) v_Row v_Args v_Func v_Items v_Op v_Bound)))]=(zca zb zf zc zg (At.mk (Int.ofNat (n+5)) v_Row v_Args v_Func v_Items v_Op v_Bound)).ev noH (λr=>some (zUI r)) none:=by kernel_rfl
theorem zHs (zb:yA->Bool×Bool) (zf:yB->Bool×Bool) (zc:yD->Bool×Bool) (zg:Wd->Bool×Bool) (n:Nat) (v_Row:RowID) (v_Args:yA) (v_Func:Int) (v_Items:yD) (v_Op:Int) (v_Bound:Value)  :zew (zcQ zb zf zc zg) f107 (body f107) ⟨[.pure],[]⟩ [.pure (.agg (base.enc 143 (At.mk (Int.negSucc n) v_Row v_Args v_Func v_Items v_Op v_Bound)))]=(zca zb zf zc zg (At.mk (Int.negSucc n) v_Row v_Args v_Func v_Items v_Op v_Bound)).ev noH (λr=>some (zUI r)) none:=by kernel_rfl
theorem zH9 (zb:yA->Bool×Bool) (zf:yB->Bool×Bool) (zc:yD->Bool×Bool) (zg:Wd->Bool×Bool) (x_:At):zew (zcQ zb zf zc zg) f107 (body f107) ⟨[.pure],[]⟩ [.pure (.agg (base.enc 143 x_))]=(zca zb zf zc zg x_).ev noH (λr=>some (zUI r)) none:=by
 obtain ⟨v_Kind,v_Row,v_Args,v_Func,v_Items,v_Op,v_Bound⟩:=x_
 match v_Kind with
 | .ofNat 0=>exact zGW zb zf zc zg v_Row v_Args v_Func v_Items v_Op v_Bound 
 | .ofNat 1=>exact zHm zb zf zc zg v_Row v_Args v_Func v_Items v_Op v_Bound 
 | .ofNat 2=>exact zGJ zb zf zc zg v_Row v_Args v_Func v_Items v_Op v_Bound 
 | .ofNat 3=>exact zF8 zb zf zc zg v_Row v_Args v_Func v_Items v_Op v_Bound 
 | .ofNat 4=>exact zHi zb zf zc zg v_Row v_Args v_Func v_Items v_Op v_Bound 
 | .ofNat (n+5)=>exact zGt zb zf zc zg n v_Row v_Args v_Func v_Items v_Op v_Bound 
 | .negSucc n=>exact zHs zb zf zc zg n v_Row v_Args v_Func v_Items v_Op v_Bound 
theorem zFP (zb:yA->Bool×Bool) (zf:yB->Bool×Bool) (zc:yD->Bool×Bool) (zg:Wd->Bool×Bool) (zl5:SdP 173 (zcl zb)) (zfV:SdP 174 (zhW zf)) (znF:SdP 178 (zcH zc)) (zfY:SdP 179 (zdn zg)):SdP 107 (zmS (zjC zb zf zc zg)):=
 z3M (cx':=(zcQ zb zf zc zg)) zA5 ze3 z8o (zi ⟨ztt,zyV,zhG,zl5,zfV,zvi,zzN,zuO,znF,zfY,zos,zyI,trivial⟩) call107 func107 (c:=body f107) (by kernel_rfl) (zsB (l:=[]) (by kernel_rfl) trivial) (sg:=⟨[.pure],[]⟩) (A:=z9g) (res:=zUI) (W:=λx=>zca zb zf zc zg x.1) (z:=default) (λx=>zH9 zb zf zc zg x.1) (λ_=>by kernel_rfl)
def zFh (zbL:yB->Bool×Bool):=zbv base 11 [(52,(zhW zbL))]
def zvs (zbL:yB->Bool×Bool) (a:yB):Wy0 (Bool):=.bn (zbL a) λr0=>.i (!r0) (.k true) (.k (Int.ofNat a.length==0))
def zkp (zbL:yB->Bool×Bool) (a:yB):=(zvs zbL a).fin default
theorem zCI (zbL:yB->Bool×Bool) (zvG:SdP 52 (zhW zbL)):SdP 174 (zhW (zkp zbL)):=
 sT (cx':=(zFh zbL)) (zi ⟨zvG,trivial⟩) call174 func174 (lOK aN)
def zFl (zbL:yB->Bool×Bool):=zbv base 13 [(52,(zhW zbL))]
def zvr (zbL:yB->Bool×Bool) (w:Wd):Wy0 (Bool):=.bn (zbL w.Ann) λr0=>.i (!r0) (.k true) (.k (Int.ofNat w.Ann.length==0))
def zkm (zbL:yB->Bool×Bool) (w:Wd):=(zvr zbL w).fin default
theorem zCQ (zbL:yB->Bool×Bool) (zvG:SdP 52 (zhW zbL)):SdP 179 (zdn (zkm zbL)):=
 sT (cx':=(zFl zbL)) (zi ⟨zvG,trivial⟩) call179 func179 (lOK aN)
def zlM (zf:yB->Bool×Bool) (zX:yA->Bool×Int):=zbv base 9 [(174,(zhW zf)),(226,(zcE zX))]
def zfi (zf:yB->Bool×Bool) (zX:yA->Bool×Int) (s:yA):Wy0 (Bool):=.bn (zX s) λr0=>.k (decide (r0≥0))
def zcm (zf:yB->Bool×Bool) (zX:yA->Bool×Int) (s:yA):=(zfi zf zX s).fin default
theorem zkC (zf:yB->Bool×Bool) (zX:yA->Bool×Int) (zfV:SdP 174 (zhW zf)) (znv:SdP 226 (zcE zX)):SdP 173 (zcl (zcm zf zX)):=
 sT (cx':=(zlM zf zX)) (zi ⟨zfV,znv,trivial⟩) call173 func173 (lOK aN)
def znb (zg:Wd->Bool×Bool) (z8:yD->Bool×Int):=zbv base 9 [(179,(zdn zg)),(228,(zc0 z8))]
def zgk (zg:Wd->Bool×Bool) (z8:yD->Bool×Int) (s:yD):Wy0 (Bool):=.bn (z8 s) λr0=>.k (decide (r0≥0))
def zcJ (zg:Wd->Bool×Bool) (z8:yD->Bool×Int) (s:yD):=(zgk zg z8 s).fin default
theorem zl0 (zg:Wd->Bool×Bool) (z8:yD->Bool×Int) (zfY:SdP 179 (zdn zg)) (zpv:SdP 228 (zc0 z8)):SdP 178 (zcH (zcJ zg z8)):=
 sT (cx':=(znb zg z8)) (zi ⟨zfY,zpv,trivial⟩) call178 func178 (lOK aN)
abbrev zcV:=yA×Unit×Int×Int×Unit
def zmL (zf:yB->Bool×Bool) (s:yA) (t7:Int) (t8:Int):Wy zcV Unit (Int⊕Unit):=.i (decide (t8<t7)) (.i (decide (0<=t8)&&decide (t8<Int.ofNat s.length)) (.bn (zf (s.getD t8.toNat default)) λr0=>.i (r0) (.k (.inl t8)) (.h (s,(),t7,(IntKind.i64.wrap (t8+1)),()) ())) .d) (.k (.inr ()))
def zfO (zf:yB->Bool×Bool) (x:zcV) (y:Unit):=zmL zf x.1 x.2.2.1 x.2.2.2.1
def zmE (zf:yB->Bool×Bool) (n:Nat) (s:yA) (t7:Int) (t8:Int):=zB (zfO zf) (.inl default) n (s,(),t7,t8,()) ()
def zmO:LL ty zcV:=za (lSl 51) (za (lFn 174 (zl)) (za zj (za zj zl)))
def zmj (x:zcV) (y:Unit):Nat:=(x.1.length+Int.toNat x.2.2.1+Int.toNat x.2.2.2.1+1)
def zfJ (zf:yB->Bool×Bool):=zbZ base 19 [(174,(zhW zf))] [] [(2,(kpL [0,1,7,8]))] [(2,1,[]),(2,0,(kpL [4]))] [(2,spW zmO z6k (zfO zf) (.inl default) zr4 zmj)] []
theorem zmo (zf:yB->Bool×Bool):zI (zfJ zf) (lp (body f226) 0):=zo (id:=2) (hl:=rfl)
def zm3 (zf:yB->Bool×Bool) (s:yA):Wy0 (Int):=.bn (zmE zf (s.length+(Int.ofNat s.length).toNat +Int.toNat 0+1) s (Int.ofNat s.length) 0) λr2=>.i (isL r2) (.k (getL r2)) (.k (-1:Int))
def zcC (zf:yB->Bool×Bool) (s:yA):=(zm3 zf s).fin default
theorem zlJ (zf:yB->Bool×Bool) (zfV:SdP 174 (zhW zf)):SdP 226 (zcE (zcC zf)):=
 sT (cx':=(zfJ zf)) (zi ⟨zfV,trivial⟩) call226 func226 (lOK (aC (zmo zf) aN))
end Go.Proofs.YtoknknbmfmddbaaGreatDoor
end
