/- Texts of this claim, joined (the program, its functions in plain words, and what they compute). -/
import Derived.Test.YtoknknbmfmddbaaGreatDoorGC1
set_option autoImplicit false
set_option linter.unusedVariables false
set_option linter.unusedSectionVars false
set_option linter.unusedSimpArgs false
set_option maxRecDepth 1000000
set_option maxHeartbeats 0
noncomputable section
namespace Go.Proofs.YtoknknbmfmddbaaGreatDoor
open Go Go.Ab
open Go.Proofs.Tryz
abbrev zcy:=yG×yG×Unit×yG×Int×Int×Unit
abbrev zgb:=Int⊕(yG×yG)
def zkz (s1:yG) (s2:yG) (t11:yG) (t12:Int) (t13:Int):Wy zcy Unit zgb:=.i (decide (t13<t12)) (.ix t13 t11.length (.i (decide (t13≥Int.ofNat s2.length)) (.k (.inl 1)) (.ix t13 s2.length (.bn (zkd (t11.getD t13.toNat default) (s2.getD t13.toNat default)) λr0=>.i (r0 != 0) (.k (.inl (r0))) (.h (s1,s2,(),t11,t12,(IntKind.i64.wrap (t13+1)),()) ()))))) (.k (.inr (s1,s2)))
def zeT (x:zcy) (y:Unit):=zkz x.1 x.2.1 x.2.2.2.1 x.2.2.2.2.1 x.2.2.2.2.2.1
def zkA (n:Nat) (s1:yG) (s2:yG) (t11:yG) (t12:Int) (t13:Int):=zy (zeT) (.inl default) n (s1,s2,(),t11,t12,t13,()) ()
def zkk (r:zgb):LTree ty:=.ite (isL r) (.done .ret [.lit (.int .i64 (getL r))] []) (.done (.exit 0) [.sl 79 (getR r).1,.sl 79 (getR r).2] [])
def zks:LL ty zcy:=za (lSl 79) (za (lSl 79) (za (lFn 131 (zk)) (za (lSl 79) (za zj (za zj zk)))))
def zkn (x:zcy) (y:Unit):Nat:=(x.1.length+x.2.1.length+x.2.2.2.1.length+Int.toNat x.2.2.2.2.1+Int.toNat x.2.2.2.2.2.1+1)
def zeR:=zbV base 39 [(131,znY)] [] [(2,(kpL [0,1,2,11,12,13]))] [(2,1,(kpL [0,1])),(2,0,(kpL [6]))] [(2,spW zks zbaJ (zeT) (.inl default) zkk zkn)] []
theorem zkl:zC zeR (lp (body f130) 0):=zn (id:=2) (hl:=rfl)
def zkX (s1:yG) (s2:yG):Wy0 (Int):=.bn (zkA (s1.length+s2.length+s1.length+(Int.ofNat s1.length).toNat +Int.toNat 0+1) s1 s2 s1 (Int.ofNat s1.length) 0) λr2=>.i (isL r2) (.k (getL r2)) (.i (decide (Int.ofNat (getR r2).1.length<Int.ofNat (getR r2).2.length)) (.k (-1:Int)) (.k 0))
def zcd (s1:yG) (s2:yG):=(zkX s1 s2).fin default
def zkZ:AL base (yG×yG×Unit×Unit):=zd (ze (vSl 79)) (zd (ze (vSl 79)) (zd (ze (vFn 131 zdg)) zp))
def zeK:=zh zkZ λx=>((zcd x.1 x.2.1).1,zQ3 (zcd x.1 x.2.1).2)
theorem zjP:SdP 130 zeK:=
 sT (cx':=zeR) (zi ⟨zr8,trivial⟩) call130 func130 (lOK (aC zkl aN))
def zUK:=zbp base 8 [(130,zeK),(131,znY)]
def zGR (a:yG) (b:yG):Wy0 (Int):=.bn (zcd a b) λr0=>.k r0
def zpM (a:yG) (b:yG):=(zGR a b).fin default
def zWn:AL base (yG×yG×Unit):=zd (ze (vSl 79)) (zd (ze (vSl 79)) zp)
def zBU:=zh zWn λx=>((zpM x.1 x.2.1).1,zQ3 (zpM x.1 x.2.1).2)
theorem zOY:SdP 77 zBU:=
 sT (cx':=zUK) (zi ⟨zjP,zr8,trivial⟩) call77 func77 (lOK aN)
def zWo:=zbp base 10 [(77,zBU)]
def zIq (x_:Row) (y_:Row):Wy0 (Int):=.bn (zpM x_.Values y_.Values) λr0=>.k r0
def zcA (x_:Row) (y_:Row):=(zIq x_ y_).fin default
def zYV:AL base (Row×Row×Unit):=zd (ze (zb7 54)) (zd (ze (zb7 54)) zp)
def zfV:=zh zYV λx=>((zcA x.1 x.2.1).1,zQ3 (zcA x.1 x.2.1).2)
theorem zhd:SdP 53 zfV:=
 sT (cx':=zWo) (zi ⟨zOY,trivial⟩) call53 func53 (lOK aN)
def zWh:=zbp base 16 [(53,zfV),(115,zot)]
def zIn (x_:Row) (y_:Row):Wy0 (Bool):=.bn (zcA x_ y_) λr1=>.i (r1==0) (.bn (zgx x_.Ann y_.Ann) λr0=>.k r0) (.k false)
def zrl (x_:Row) (y_:Row):=(zIn x_ y_).fin default
def zvF:=zh zYV λx=>((zrl x.1 x.2.1).1,zXz (zrl x.1 x.2.1).2)
theorem zCl:SdP 60 zvF:=
 sT (cx':=zWh) (zi ⟨zhd,zul,trivial⟩) call60 func60 (lOK aN)
abbrev zdI:=yF×Unit×yF×Int×Int×Unit
def zb6 (s2:yF) (t15:yF) (t16:Int) (t17:Int):Wy zdI Unit (Bool⊕Unit):=.i (decide (t17<t16)) (.ix t17 t15.length (.ix t17 s2.length (.bn (zrl (t15.getD t17.toNat default) (s2.getD t17.toNat default)) λr0=>.i (!r0) (.k (.inl false)) (.h (s2,(),t15,t16,(IntKind.i64.wrap (t17+1)),()) ())))) (.k (.inr ()))
def zd3 (x:zdI) (y:Unit):=zb6 x.1 x.2.2.1 x.2.2.2.1 x.2.2.2.2.1
def zgH (n:Nat) (s2:yF) (t15:yF) (t16:Int) (t17:Int):=zy (zd3) (.inl default) n (s2,(),t15,t16,t17,()) ()
def znV (r:Bool⊕Unit):LTree ty:=.ite (isL r) (.done .ret [.lit (.bool (getL r))] []) (.done (.exit 0) [] [])
def zoa:LL ty zdI:=za (lSl 54) (za (lFn 60 (zk)) (za (lSl 54) (za zj (za zj zk))))
def znO (x:zdI) (y:Unit):Nat:=(x.1.length+x.2.2.1.length+Int.toNat x.2.2.2.1+Int.toNat x.2.2.2.2.1+1000)
def zgJ:=zbV base 32 [(60,zvF)] [] [(4,(kpL [1,2,15,16,17]))] [(4,1,[]),(4,0,(kpL [6]))] [(4,spW zoa zbaJ (zd3) (.inl default) znV znO)] []
theorem zn0:zC zgJ (lp (body f59) 0):=zn (id:=4) (hl:=rfl)
def zgT (s1:yF) (s2:yF):Wy0 (Bool):=.i (Int.ofNat s1.length != Int.ofNat s2.length) (.k false) (.bn (zgH (s2.length+s1.length+(Int.ofNat s1.length).toNat +Int.toNat 0+1000) s2 s1 (Int.ofNat s1.length) 0) λr2=>.i (isL r2) (.k (getL r2)) (.k true))
def zcc (s1:yF) (s2:yF):=(zgT s1 s2).fin default
def zoL:AL base (yF×yF×Unit×Unit):=zd (ze (vSl 54)) (zd (ze (vSl 54)) (zd (ze (vFn 60 zdg)) zp))
def zf9:=zh zoL λx=>((zcc x.1 x.2.1).1,zXz (zcc x.1 x.2.1).2)
theorem zmX:SdP 59 zf9:=
 sT (cx':=zgJ) (zi ⟨zCl,trivial⟩) call59 func59 (lOK (aC zn0 aN))
abbrev zfI:=yH×yH×Int×Int×Unit
def zdz (s1:yH) (s2:yH) (t12:Int) (t13:Int):Wy zfI Unit (Bool⊕Unit):=.i (decide (t13<t12)) (.ix t13 s1.length (.ix t13 s2.length (.i (!((s1.getD t13.toNat default).Name.toList==(s2.getD t13.toNat default).Name.toList&&((s1.getD t13.toNat default).Type_==(s2.getD t13.toNat default).Type_&&true))) (.k (.inl false)) (.h (s1,s2,t12,(IntKind.i64.wrap (t13+1)),()) ())))) (.k (.inr ()))
def zhv (x:zfI) (y:Unit):=zdz x.1 x.2.1 x.2.2.1 x.2.2.2.1
def zmr (n:Nat) (s1:yH) (s2:yH) (t12:Int) (t13:Int):=zy (zhv) (.inl default) n (s1,s2,t12,t13,()) ()
def zyz:LL ty zfI:=za (lSl 75) (za (lSl 75) (za zj (za zj zk)))
def zxu (x:zfI) (y:Unit):Nat:=(x.1.length+x.2.1.length+Int.toNat x.2.2.1+Int.toNat x.2.2.2.1+1000)
def zmu:=zbV base 26 [] [] [(4,(kpL [0,1,12,13]))] [(4,1,[]),(4,0,(kpL [4]))] [(4,spW zyz zbaJ (zhv) (.inl default) znV zxu)] []
theorem zx5:zC zmu (lp (body f58) 0):=zn (id:=4) (hl:=rfl)
def zm4 (s1:yH) (s2:yH):Wy0 (Bool):=.i (Int.ofNat s1.length != Int.ofNat s2.length) (.k false) (.bn (zmr (s1.length+s2.length+(Int.ofNat s1.length).toNat +Int.toNat 0+1000) s1 s2 (Int.ofNat s1.length) 0) λr0=>.i (isL r0) (.k (getL r0)) (.k true))
def zd8 (s1:yH) (s2:yH):=(zm4 s1 s2).fin default
def zzj:AL base (yH×yH×Unit):=zd (ze (vSl 75)) (zd (ze (vSl 75)) zp)
def zlk:=zh zzj λx=>((zd8 x.1 x.2.1).1,zXz (zd8 x.1 x.2.1).2)
theorem zwd:SdP 58 zlk:=
 sT (cx':=zmu) (zi trivial) call58 func58 (lOK (aC zx5 aN))
def z1x:=zbp base 17 [(58,zlk),(59,zf9),(60,zvF)]
def zMQ (a:Relation) (b:Relation):Wy0 (Bool):=.bn (zd8 a.Columns b.Columns) λr1=>.i (r1) (.bn (zcc a.Rows b.Rows) λr0=>.k r0) (.k false)
def zqZ (a:Relation) (b:Relation):=(zMQ a b).fin default
def z4E:AL base (Relation×Relation×Unit):=zd (ze (zb7 25)) (zd (ze (zb7 25)) zp)
def zyy:=zh z4E λx=>((zqZ x.1 x.2.1).1,zXz (zqZ x.1 x.2.1).2)
theorem zFZ:SdP 16 zyy:=
 sT (cx':=z1x) (zi ⟨zwd,zmX,zCl,trivial⟩) call16 func16 (lOK aN)
def zY9:AL base (yB×Unit):=zd (ze (vSl 107)) zp
def ziu (F:yB->Bool×Bool):Ab.Spec ty:=zh zY9 λx=>((F x.1).1,zXz (F x.1).2)
def znj (F:At->Bool×Bool):Ab.Spec ty:=zh zbcy λx=>((F x.1).1,zXz (F x.1).2)
def zK4:AL base (Wd×Unit):=zd (ze (zb7 169)) zp
def zdF (F:Wd->Bool×Bool):Ab.Spec ty:=zh zK4 λx=>((F x.1).1,zXz (F x.1).2)
def zo6:AL base (yA×Unit×Unit):=zd (ze (vSl 51)) (zd (ze (vFn 174 zdg)) zp)
def zcQ (F:yA->Bool×Int):Ab.Spec ty:=zh zo6 λx=>((F x.1).1,zQ3 (F x.1).2)
def zcw (F:yA->Bool×Bool):Ab.Spec ty:=zh zo6 λx=>((F x.1).1,zXz (F x.1).2)
def zrz:AL base (yD×Unit×Unit):=zd (ze (vSl 169)) (zd (ze (vFn 179 zdg)) zp)
def zc8 (F:yD->Bool×Int):Ab.Spec ty:=zh zrz λx=>((F x.1).1,zQ3 (F x.1).2)
def zcV (F:yD->Bool×Bool):Ab.Spec ty:=zh zrz λx=>((F x.1).1,zXz (F x.1).2)
def zN8:=zbp base 11 []
def zA2 (x_:At):Wy0 (Bool):=.i (x_.Kind==3) (.k true) (.k (x_.Kind==4))
def zf0 (x_:At):=(zA2 x_).fin default
def zj7:=zh zbcy λx=>((zf0 x.1).1,zXz (zf0 x.1).2)
theorem znW:SdP 105 zj7:=
 sT (cx':=zN8) (zi trivial) call105 func105 (lOK aN)
def zph (F:yB->Bool×Int):Ab.Spec ty:=zh zY9 λx=>((F x.1).1,zQ3 (F x.1).2)
abbrev ztQ:=Int×Unit×yB×Int×Int×yC×Int×Int×yA×Int×Int×Unit
abbrev zIR:=Int×yB×Int×Int×yC×Int×Int×Fc
abbrev zui:=Int×yB×Int×Int×yC×Int×Int×yD×Int×Int×Unit
abbrev zJA:=Int×yB×Int×Int×yC×Int×Int
abbrev ztr:=Int×yB×Int×Int×yC×Int×Int×Unit
abbrev zJw:=Int×yB×Int×Int
abbrev ztu:=Int×yB×Int×Int×Unit
def zkt (zr:yB->Bool×Int) (n_:Int) (t12:yB) (t13:Int) (t14:Int) (t25:yC) (t26:Int) (t27:Int) (t33:yA) (t34:Int) (t35:Int) (f:Fc):Wy ztQ (Fc×Unit) zIR:=.i (decide (t35<t34)) (.ix t35 t33.length (.bn (zr (t33.getD t35.toNat default)) λr0=>.h ((IntKind.i64.wrap (n_+r0)),(),t12,t13,t14,t25,t26,t27,t33,t34,(IntKind.i64.wrap (t35+1)),()) (f,()))) (.k (n_,t12,t13,t14,t25,t26,t27,f))
def zvA (zr:yB->Bool×Int) (x:ztQ) (y:Fc×Unit):=zkt zr x.1 x.2.2.1 x.2.2.2.1 x.2.2.2.2.1 x.2.2.2.2.2.1 x.2.2.2.2.2.2.1 x.2.2.2.2.2.2.2.1 x.2.2.2.2.2.2.2.2.1 x.2.2.2.2.2.2.2.2.2.1 x.2.2.2.2.2.2.2.2.2.2.1 y.1
def zDp (zr:yB->Bool×Int) (n:Nat) (n_:Int) (t12:yB) (t13:Int) (t14:Int) (t25:yC) (t26:Int) (t27:Int) (t33:yA) (t34:Int) (t35:Int) (f:Fc):=zy (zvA zr) default n (n_,(),t12,t13,t14,t25,t26,t27,t33,t34,t35,()) (f,())
def zQF (r:zIR):LTree ty:=.done (.exit 4) [.lit (.int .i64 r.1),.ptr 248 0,.sl 107 r.2.1,.lit (.int .i64 r.2.2.1),.lit (.int .i64 r.2.2.2.1),.sl 145 r.2.2.2.2.1,.lit (.int .i64 r.2.2.2.2.2.1),.lit (.int .i64 r.2.2.2.2.2.2.1)] [.box (base.enc 145 r.2.2.2.2.2.2.2) false]
def zSA:LL ty ztQ:=za zj (za (zcm 248 0) (za (lSl 107) (za zj (za zj (za (lSl 145) (za zj (za zj (za (lSl 51) (za zj (za zj zk))))))))))
def zSJ:BL ty (Fc×Unit):=zdx (zdi (λx=>(⟨⟨x.1,⟨x.2.1,x.2.2.1⟩,x.2.2.2.1,x.2.2.2.2.1,x.2.2.2.2.2.1,x.2.2.2.2.2.2.1,⟨x.2.2.2.2.2.2.2.1,x.2.2.2.2.2.2.2.2.1,x.2.2.2.2.2.2.2.2.2.1⟩⟩,x.2.2.2.2.2.2.2.2.2.2.1⟩:Fc)) (λx=>(x.At.Kind,x.At.Row.Table,x.At.Row.Seq,x.At.Ag,x.At.Func,x.At.Items,x.At.Op,x.At.Bd.Kind,x.At.Bd.Int,x.At.Bd.Text,x.Exp,())) (λ_=>rfl) (za (zL .i64) (za (zL .i64) (za (zL .i64) (za (lSl 51) (za (zL .i64) (za (lSl 169) (za (zL .i64) (za (zL .i64) (za (zL .i64) (za zoZ (za (zL .i64) zk)))))))))))) false (zY)
def zkB (zr:yB->Bool×Int) (n_:Int) (t12:yB) (t13:Int) (t14:Int) (t25:yC) (t26:Int) (t27:Int) (t46:yD) (t47:Int) (t48:Int):Wy zui Unit zJA:=.i (decide (t48<t47)) (.ix t48 t46.length (.bn (zr (t46.getD t48.toNat default).Ann) λr2=>.h ((IntKind.i64.wrap (n_+IntKind.i64.wrap (1+r2))),t12,t13,t14,t25,t26,t27,t46,t47,(IntKind.i64.wrap (t48+1)),()) ())) (.k (n_,t12,t13,t14,t25,t26,t27))
def zvY (zr:yB->Bool×Int) (x:zui) (y:Unit):=zkB zr x.1 x.2.1 x.2.2.1 x.2.2.2.1 x.2.2.2.2.1 x.2.2.2.2.2.1 x.2.2.2.2.2.2.1 x.2.2.2.2.2.2.2.1 x.2.2.2.2.2.2.2.2.1 x.2.2.2.2.2.2.2.2.2.1
def zDn (zr:yB->Bool×Int) (n:Nat) (n_:Int) (t12:yB) (t13:Int) (t14:Int) (t25:yC) (t26:Int) (t27:Int) (t46:yD) (t47:Int) (t48:Int):=zy (zvY zr) default n (n_,t12,t13,t14,t25,t26,t27,t46,t47,t48,()) ()
def zQd (r:zJA):LTree ty:=.done (.exit 6) [.lit (.int .i64 r.1),.sl 107 r.2.1,.lit (.int .i64 r.2.2.1),.lit (.int .i64 r.2.2.2.1),.sl 145 r.2.2.2.2.1,.lit (.int .i64 r.2.2.2.2.2.1),.lit (.int .i64 r.2.2.2.2.2.2)] []
def zRx:LL ty zui:=za zj (za (lSl 107) (za zj (za zj (za (lSl 145) (za zj (za zj (za (lSl 169) (za zj (za zj zk)))))))))
def zln (zr:yB->Bool×Int) (n_:Int) (t12:yB) (t13:Int) (t14:Int) (t25:yC) (t26:Int) (t27:Int):Wy ztr Unit zJw:=.i (decide (t27<t26)) (.ix t27 t25.length (.bn (zDp zr (n_.toNat +t12.length+t13.toNat +t14.toNat +t25.length+t26.toNat +t27.toNat +(t25.getD t27.toNat default).At.Ag.length+(Int.ofNat (t25.getD t27.toNat default).At.Ag.length).toNat +Int.toNat 0+(t25.getD t27.toNat default).At.Ag.length+(t25.getD t27.toNat default).At.Items.length+1) n_ t12 t13 t14 t25 t26 t27 (t25.getD t27.toNat default).At.Ag (Int.ofNat (t25.getD t27.toNat default).At.Ag.length) 0 (FO.mk (At.et ((t25.getD t27.toNat default).At)) (t25.getD t27.toNat default).Exp)) λr5=>.bn (zDn zr (r5.1.toNat +r5.2.1.length+r5.2.2.1.toNat +r5.2.2.2.1.toNat +r5.2.2.2.2.1.length+r5.2.2.2.2.2.1.toNat +r5.2.2.2.2.2.2.1.toNat +r5.2.2.2.2.2.2.2.At.Items.length+(Int.ofNat r5.2.2.2.2.2.2.2.At.Items.length).toNat +Int.toNat 0+1) r5.1 r5.2.1 r5.2.2.1 r5.2.2.2.1 r5.2.2.2.2.1 r5.2.2.2.2.2.1 r5.2.2.2.2.2.2.1 r5.2.2.2.2.2.2.2.At.Items (Int.ofNat r5.2.2.2.2.2.2.2.At.Items.length) 0) λr4=>.h ((r4.1),(r4.2.1),(r4.2.2.1),(r4.2.2.2.1),(r4.2.2.2.2.1),(r4.2.2.2.2.2.1),(IntKind.i64.wrap (r4.2.2.2.2.2.2+1)),()) ())) (.k (n_,t12,t13,t14))
def zwO (zr:yB->Bool×Int) (x:ztr) (y:Unit):=zln zr x.1 x.2.1 x.2.2.1 x.2.2.2.1 x.2.2.2.2.1 x.2.2.2.2.2.1 x.2.2.2.2.2.2.1
def zET (zr:yB->Bool×Int) (n:Nat) (n_:Int) (t12:yB) (t13:Int) (t14:Int) (t25:yC) (t26:Int) (t27:Int):=zy (zwO zr) default n (n_,t12,t13,t14,t25,t26,t27,()) ()
def zR9 (r:zJw):LTree ty:=.done (.exit 2) [.lit (.int .i64 r.1),.sl 107 r.2.1,.lit (.int .i64 r.2.2.1),.lit (.int .i64 r.2.2.2)] []
def zUP:LL ty ztr:=za zj (za (lSl 107) (za zj (za zj (za (lSl 145) (za zj (za zj zk))))))
def zlM (zr:yB->Bool×Int) (n_:Int) (t12:yB) (t13:Int) (t14:Int):Wy ztu Unit (Int):=.i (decide (t14<t13)) (.ix t14 t12.length (.bn (zET zr ((IntKind.i64.wrap (n_+IntKind.i64.wrap (1+Int.ofNat (t12.getD t14.toNat default).Fs.length))).toNat +t12.length+t13.toNat +t14.toNat +(t12.getD t14.toNat default).Fs.length+(Int.ofNat (t12.getD t14.toNat default).Fs.length).toNat +Int.toNat 0+1) (IntKind.i64.wrap (n_+IntKind.i64.wrap (1+Int.ofNat (t12.getD t14.toNat default).Fs.length))) t12 t13 t14 (t12.getD t14.toNat default).Fs (Int.ofNat (t12.getD t14.toNat default).Fs.length) 0) λr8=>.h ((r8.1),(r8.2.1),(r8.2.2.1),(IntKind.i64.wrap (r8.2.2.2+1)),()) ())) (.k n_)
def zxs (zr:yB->Bool×Int) (x:ztu) (y:Unit):=zlM zr x.1 x.2.1 x.2.2.1 x.2.2.2.1
def zFf (zr:yB->Bool×Int) (n:Nat) (n_:Int) (t12:yB) (t13:Int) (t14:Int):=zy (zxs zr) default n (n_,t12,t13,t14,()) ()
def zR8 (r:Int):LTree ty:=.done (.exit 0) [.lit (.int .i64 r)] []
def zUb:LL ty ztu:=za zj (za (lSl 107) (za zj (za zj zk)))
def zQx (x:ztQ) (y:Fc×Unit):Nat:=(Int.toNat x.1+x.2.2.1.length+Int.toNat x.2.2.2.1+Int.toNat x.2.2.2.2.1+x.2.2.2.2.2.1.length+Int.toNat x.2.2.2.2.2.2.1+Int.toNat x.2.2.2.2.2.2.2.1+x.2.2.2.2.2.2.2.2.1.length+Int.toNat x.2.2.2.2.2.2.2.2.2.1+Int.toNat x.2.2.2.2.2.2.2.2.2.2.1+y.1.At.Ag.length+y.1.At.Items.length+1)
def zP5 (x:zui) (y:Unit):Nat:=(Int.toNat x.1+x.2.1.length+Int.toNat x.2.2.1+Int.toNat x.2.2.2.1+x.2.2.2.2.1.length+Int.toNat x.2.2.2.2.2.1+Int.toNat x.2.2.2.2.2.2.1+x.2.2.2.2.2.2.2.1.length+Int.toNat x.2.2.2.2.2.2.2.2.1+Int.toNat x.2.2.2.2.2.2.2.2.2.1+1)
def zSZ (x:ztr) (y:Unit):Nat:=(Int.toNat x.1+x.2.1.length+Int.toNat x.2.2.1+Int.toNat x.2.2.2.1+x.2.2.2.2.1.length+Int.toNat x.2.2.2.2.2.1+Int.toNat x.2.2.2.2.2.2.1+1)
def zRT (x:ztu) (y:Unit):Nat:=(Int.toNat x.1+x.2.1.length+Int.toNat x.2.2.1+Int.toNat x.2.2.2.1+1)
def zlg (zr:yB->Bool×Int):=zbV base 62 [(160,(zph zr))] [] [(3,(kpL [3,12,13,14])),(7,(kpL [3,12,13,14,25,26,27])),(10,(kpL [3,7,12,13,14,25,26,27,33,34,35])),(15,(kpL [3,12,13,14,25,26,27,46,47,48]))] [(3,1,(kpL [3])),(7,3,(kpL [3,12,13,14])),(10,5,(kpL [3,7,12,13,14,25,26,27])),(15,7,(kpL [3,12,13,14,25,26,27]))] [(10,spW zSA zSJ (zvA zr) default zQF zQx),(15,spW zRx zbaJ (zvY zr) default zQd zP5),(7,spW zUP zbaJ (zwO zr) default zR9 zSZ),(3,spW zUb zbaJ (zxs zr) default zR8 zRT)] []
theorem zRe (zr:yB->Bool×Int):zC (zlg zr) (lp (body f160) 2):=zn (id:=10) (hl:=rfl)
theorem zQh (zr:yB->Bool×Int):zC (zlg zr) (lp (body f160) 3):=zn (id:=15) (hl:=rfl)
theorem zS0 (zr:yB->Bool×Int):zC (zlg zr) (lp (body f160) 1):=zn (id:=7) (hl:=rfl)
theorem zR6 (zr:yB->Bool×Int):zC (zlg zr) (lp (body f160) 0):=zn (id:=3) (hl:=rfl)
def zGq (zr:yB->Bool×Int) (a:yB):Wy0 (Int):=.bn (zFf zr (Int.toNat 0+a.length+(Int.ofNat a.length).toNat +Int.toNat 0+1) 0 a (Int.ofNat a.length) 0) λr10=>.k r10
def zu4 (zr:yB->Bool×Int) (a:yB):=(zGq zr a).fin default
theorem zO3 (zr:yB->Bool×Int) (zWS:SdP 160 (zph zr)):SdP 160 (zph (zu4 zr)):=
 sT (cx':=(zlg zr)) (zi ⟨zWS,trivial⟩) call160 func160 (lOK (aC (zR6 zr) (aC (zS0 zr) (aC (zRe zr) (aC (zQh zr) aN)))))
def zbbP:Nat->(yB->Bool×Int)
 | 0=>λ_=>(false,default)
 | n+1=>zu4 (zbbP n)
def zlN (n:Nat):yB->Bool×Int:=zbbP n
theorem zU3 (n:Nat):zlN (n+1)=zu4 (zlN n):=rfl
theorem z59:∀ n,SdP 160 (zph (zlN n))
 | 0=>zbl call160 (λ_=>rfl)
 | n+1=>by
  have ih:=z59 n;exact zO3 _ (ih)
def zEU:yB->Bool×Int:=zlN 1000
def zFk:Ab.Spec ty:=zph zEU
theorem zSl:SdP 160 zFk:=(z59 1000)
abbrev zoK:=Int×Unit×Int×yB×Int×Int×yC×Int×Int×yA×Int×Int×Unit
abbrev zDD:=Int×Int×yB×Int×Int×yC×Int×Int×Fc
abbrev zoG:=Int×Int×yB×Int×Int×yC×Int×Int×yD×Int×Int×Unit
abbrev zDG:=Int×Int×yB×Int×Int×yC×Int×Int
abbrev zom:=Int×yB×Int×Int×yC×Int×Int×Unit
abbrev zDH:=Int×yB×Int×Int
abbrev zoH:=Int×yB×Int×Int×Unit
def zii (zl:yB->Bool×Int) (n_:Int) (inner:Int) (t13:yB) (t14:Int) (t15:Int) (t20:yC) (t21:Int) (t22:Int) (t32:yA) (t33:Int) (t34:Int) (f:Fc):Wy zoK (Fc×Unit) zDD:=.i (decide (t34<t33)) (.ix t34 t32.length (.bn (zl (t32.getD t34.toNat default)) λr0=>.h (n_,(),(if r0>inner then r0 else inner),t13,t14,t15,t20,t21,t22,t32,t33,(IntKind.i64.wrap (t34+1)),()) (f,()))) (.k (n_,inner,t13,t14,t15,t20,t21,t22,f))
def zre (zl:yB->Bool×Int) (x:zoK) (y:Fc×Unit):=zii zl x.1 x.2.2.1 x.2.2.2.1 x.2.2.2.2.1 x.2.2.2.2.2.1 x.2.2.2.2.2.2.1 x.2.2.2.2.2.2.2.1 x.2.2.2.2.2.2.2.2.1 x.2.2.2.2.2.2.2.2.2.1 x.2.2.2.2.2.2.2.2.2.2.1 x.2.2.2.2.2.2.2.2.2.2.2.1 y.1
def zzR (zl:yB->Bool×Int) (n:Nat) (n_:Int) (inner:Int) (t13:yB) (t14:Int) (t15:Int) (t20:yC) (t21:Int) (t22:Int) (t32:yA) (t33:Int) (t34:Int) (f:Fc):=zy (zre zl) default n (n_,(),inner,t13,t14,t15,t20,t21,t22,t32,t33,t34,()) (f,())
def zLE (r:zDD):LTree ty:=.done (.exit 4) [.lit (.int .i64 r.1),.ptr 256 0,.lit (.int .i64 r.2.1),.sl 107 r.2.2.1,.lit (.int .i64 r.2.2.2.1),.lit (.int .i64 r.2.2.2.2.1),.sl 145 r.2.2.2.2.2.1,.lit (.int .i64 r.2.2.2.2.2.2.1),.lit (.int .i64 r.2.2.2.2.2.2.2.1)] [.box (base.enc 145 r.2.2.2.2.2.2.2.2) false]
def zMR:LL ty zoK:=za zj (za (zcm 256 0) (za zj (za (lSl 107) (za zj (za zj (za (lSl 145) (za zj (za zj (za (lSl 51) (za zj (za zj zk)))))))))))
def ziy (zl:yB->Bool×Int) (n_:Int) (inner:Int) (t13:yB) (t14:Int) (t15:Int) (t20:yC) (t21:Int) (t22:Int) (t45:yD) (t46:Int) (t47:Int):Wy zoG Unit zDG:=.i (decide (t47<t46)) (.ix t47 t45.length (.bn (zl (t45.getD t47.toNat default).Ann) λr2=>.h (n_,(if r2>inner then r2 else inner),t13,t14,t15,t20,t21,t22,t45,t46,(IntKind.i64.wrap (t47+1)),()) ())) (.k (n_,inner,t13,t14,t15,t20,t21,t22))
def zrK (zl:yB->Bool×Int) (x:zoG) (y:Unit):=ziy zl x.1 x.2.1 x.2.2.1 x.2.2.2.1 x.2.2.2.2.1 x.2.2.2.2.2.1 x.2.2.2.2.2.2.1 x.2.2.2.2.2.2.2.1 x.2.2.2.2.2.2.2.2.1 x.2.2.2.2.2.2.2.2.2.1 x.2.2.2.2.2.2.2.2.2.2.1
def zzK (zl:yB->Bool×Int) (n:Nat) (n_:Int) (inner:Int) (t13:yB) (t14:Int) (t15:Int) (t20:yC) (t21:Int) (t22:Int) (t45:yD) (t46:Int) (t47:Int):=zy (zrK zl) default n (n_,inner,t13,t14,t15,t20,t21,t22,t45,t46,t47,()) ()
def zLz (r:zDG):LTree ty:=.done (.exit 6) [.lit (.int .i64 r.1),.lit (.int .i64 r.2.1),.sl 107 r.2.2.1,.lit (.int .i64 r.2.2.2.1),.lit (.int .i64 r.2.2.2.2.1),.sl 145 r.2.2.2.2.2.1,.lit (.int .i64 r.2.2.2.2.2.2.1),.lit (.int .i64 r.2.2.2.2.2.2.2)] []
def zL6:LL ty zoG:=za zj (za zj (za (lSl 107) (za zj (za zj (za (lSl 145) (za zj (za zj (za (lSl 169) (za zj (za zj zk))))))))))
def zjd (zl:yB->Bool×Int) (n_:Int) (t13:yB) (t14:Int) (t15:Int) (t20:yC) (t21:Int) (t22:Int):Wy zom Unit zDH:=.i (decide (t22<t21)) (.ix t22 t20.length (.i ((t20.getD t22.toNat default).At.Kind==0) (.h (n_,t13,t14,t15,t20,t21,(IntKind.i64.wrap (t22+1)),()) ()) (.bn (zzR zl (n_.toNat +Int.toNat 0+t13.length+t14.toNat +t15.toNat +t20.length+t21.toNat +t22.toNat +(t20.getD t22.toNat default).At.Ag.length+(Int.ofNat (t20.getD t22.toNat default).At.Ag.length).toNat +Int.toNat 0+(t20.getD t22.toNat default).At.Ag.length+(t20.getD t22.toNat default).At.Items.length+1) n_ 0 t13 t14 t15 t20 t21 t22 (t20.getD t22.toNat default).At.Ag (Int.ofNat (t20.getD t22.toNat default).At.Ag.length) 0 (FO.mk (At.et ((t20.getD t22.toNat default).At)) (t20.getD t22.toNat default).Exp)) λr5=>.bn (zzK zl (r5.1.toNat +r5.2.1.toNat +r5.2.2.1.length+r5.2.2.2.1.toNat +r5.2.2.2.2.1.toNat +r5.2.2.2.2.2.1.length+r5.2.2.2.2.2.2.1.toNat +r5.2.2.2.2.2.2.2.1.toNat +r5.2.2.2.2.2.2.2.2.At.Items.length+(Int.ofNat r5.2.2.2.2.2.2.2.2.At.Items.length).toNat +Int.toNat 0+1) r5.1 r5.2.1 r5.2.2.1 r5.2.2.2.1 r5.2.2.2.2.1 r5.2.2.2.2.2.1 r5.2.2.2.2.2.2.1 r5.2.2.2.2.2.2.2.1 r5.2.2.2.2.2.2.2.2.At.Items (Int.ofNat r5.2.2.2.2.2.2.2.2.At.Items.length) 0) λr4=>.h ((if IntKind.i64.wrap (1+r4.2.1)>r4.1 then IntKind.i64.wrap (1+r4.2.1) else r4.1),(r4.2.2.1),(r4.2.2.2.1),(r4.2.2.2.2.1),(r4.2.2.2.2.2.1),(r4.2.2.2.2.2.2.1),(IntKind.i64.wrap (r4.2.2.2.2.2.2.2+1)),()) ()))) (.k (n_,t13,t14,t15))
def zs5 (zl:yB->Bool×Int) (x:zom) (y:Unit):=zjd zl x.1 x.2.1 x.2.2.1 x.2.2.2.1 x.2.2.2.2.1 x.2.2.2.2.2.1 x.2.2.2.2.2.2.1
def zA6 (zl:yB->Bool×Int) (n:Nat) (n_:Int) (t13:yB) (t14:Int) (t15:Int) (t20:yC) (t21:Int) (t22:Int):=zy (zs5 zl) default n (n_,t13,t14,t15,t20,t21,t22,()) ()
def zNU (r:zDH):LTree ty:=.done (.exit 2) [.lit (.int .i64 r.1),.sl 107 r.2.1,.lit (.int .i64 r.2.2.1),.lit (.int .i64 r.2.2.2)] []
def zOM:LL ty zom:=za zj (za (lSl 107) (za zj (za zj (za (lSl 145) (za zj (za zj zk))))))
def zjh (zl:yB->Bool×Int) (n_:Int) (t13:yB) (t14:Int) (t15:Int):Wy zoH Unit (Int):=.i (decide (t15<t14)) (.ix t15 t13.length (.bn (zA6 zl (n_.toNat +t13.length+t14.toNat +t15.toNat +(t13.getD t15.toNat default).Fs.length+(Int.ofNat (t13.getD t15.toNat default).Fs.length).toNat +Int.toNat 0+1) n_ t13 t14 t15 (t13.getD t15.toNat default).Fs (Int.ofNat (t13.getD t15.toNat default).Fs.length) 0) λr8=>.h ((r8.1),(r8.2.1),(r8.2.2.1),(IntKind.i64.wrap (r8.2.2.2+1)),()) ())) (.k n_)
def zsI (zl:yB->Bool×Int) (x:zoH) (y:Unit):=zjh zl x.1 x.2.1 x.2.2.1 x.2.2.2.1
def zA3 (zl:yB->Bool×Int) (n:Nat) (n_:Int) (t13:yB) (t14:Int) (t15:Int):=zy (zsI zl) default n (n_,t13,t14,t15,()) ()
def zOf:LL ty zoH:=za zj (za (lSl 107) (za zj (za zj zk)))
def zLS (x:zoK) (y:Fc×Unit):Nat:=(Int.toNat x.1+Int.toNat x.2.2.1+x.2.2.2.1.length+Int.toNat x.2.2.2.2.1+Int.toNat x.2.2.2.2.2.1+x.2.2.2.2.2.2.1.length+Int.toNat x.2.2.2.2.2.2.2.1+Int.toNat x.2.2.2.2.2.2.2.2.1+x.2.2.2.2.2.2.2.2.2.1.length+Int.toNat x.2.2.2.2.2.2.2.2.2.2.1+Int.toNat x.2.2.2.2.2.2.2.2.2.2.2.1+y.1.At.Ag.length+y.1.At.Items.length+1)
def zLG (x:zoG) (y:Unit):Nat:=(Int.toNat x.1+Int.toNat x.2.1+x.2.2.1.length+Int.toNat x.2.2.2.1+Int.toNat x.2.2.2.2.1+x.2.2.2.2.2.1.length+Int.toNat x.2.2.2.2.2.2.1+Int.toNat x.2.2.2.2.2.2.2.1+x.2.2.2.2.2.2.2.2.1.length+Int.toNat x.2.2.2.2.2.2.2.2.2.1+Int.toNat x.2.2.2.2.2.2.2.2.2.2.1+1)
def zMX (x:zom) (y:Unit):Nat:=(Int.toNat x.1+x.2.1.length+Int.toNat x.2.2.1+Int.toNat x.2.2.2.1+x.2.2.2.2.1.length+Int.toNat x.2.2.2.2.2.1+Int.toNat x.2.2.2.2.2.2.1+1)
def zNC (x:zoH) (y:Unit):Nat:=(Int.toNat x.1+x.2.1.length+Int.toNat x.2.2.1+Int.toNat x.2.2.2.1+1)
def zi8 (zl:yB->Bool×Int):=zbV base 64 [(159,(zph zl))] [] [(3,(kpL [3,13,14,15])),(6,(kpL [3,13,14,15,20,21,22])),(11,(kpL [3,7,8,13,14,15,20,21,22,32,33,34])),(16,(kpL [3,8,13,14,15,20,21,22,45,46,47]))] [(3,1,(kpL [3])),(6,3,(kpL [3,13,14,15])),(11,5,(kpL [3,7,8,13,14,15,20,21,22])),(16,7,(kpL [3,8,13,14,15,20,21,22]))] [(11,spW zMR zSJ (zre zl) default zLE zLS),(16,spW zL6 zbaJ (zrK zl) default zLz zLG),(6,spW zOM zbaJ (zs5 zl) default zNU zMX),(3,spW zOf zbaJ (zsI zl) default zR8 zNC)] []
theorem zLb (zl:yB->Bool×Int):zC (zi8 zl) (lp (body f159) 2):=zn (id:=11) (hl:=rfl)
theorem zLe (zl:yB->Bool×Int):zC (zi8 zl) (lp (body f159) 3):=zn (id:=16) (hl:=rfl)
theorem zN0 (zl:yB->Bool×Int):zC (zi8 zl) (lp (body f159) 1):=zn (id:=6) (hl:=rfl)
theorem zOb (zl:yB->Bool×Int):zC (zi8 zl) (lp (body f159) 0):=zn (id:=3) (hl:=rfl)
def zB4 (zl:yB->Bool×Int) (a:yB):Wy0 (Int):=.bn (zA3 zl (Int.toNat 0+a.length+(Int.ofNat a.length).toNat +Int.toNat 0+1) 0 a (Int.ofNat a.length) 0) λr10=>.k r10
def zqh (zl:yB->Bool×Int) (a:yB):=(zB4 zl a).fin default
theorem zJ5 (zl:yB->Bool×Int) (zQl:SdP 159 (zph zl)):SdP 159 (zph (zqh zl)):=
 sT (cx':=(zi8 zl)) (zi ⟨zQl,trivial⟩) call159 func159 (lOK (aC (zOb zl) (aC (zN0 zl) (aC (zLb zl) (aC (zLe zl) aN)))))
def z2A:Nat->(yB->Bool×Int)
 | 0=>λ_=>(false,default)
 | n+1=>zqh (z2A n)
def zgD (n:Nat):yB->Bool×Int:=z2A n
theorem zOB (n:Nat):zgD (n+1)=zqh (zgD n):=rfl
theorem zVO:∀ n,SdP 159 (zph (zgD n))
 | 0=>zbl call159 (λ_=>rfl)
 | n+1=>by
  have ih:=zVO n;exact zJ5 _ (ih)
def zzr:yB->Bool×Int:=zgD 1000
def zA4:Ab.Spec ty:=zph zzr
theorem zNF:SdP 159 zA4:=(zVO 1000)
def zKp:=zbp base 13 []
def zy4 (f:Fc):Wy0 (Bool):=.i (decide (f.Exp>64)) (.k true) (.k (decide (Int.ofNat f.At.Items.length>1024)))
def zgs (f:Fc):=(zy4 f).fin default
def zLO:AL base (Fc×Unit):=zd (ze (zb7 145)) zp
def zi4:=zh zLO λx=>((zgs x.1).1,zXz (zgs x.1).2)
theorem zma:SdP 164 zi4:=
 sT (cx':=zKp) (zi trivial) call164 func164 (lOK aN)
abbrev zex:=yC×Unit×Int×Int×Unit
def zjF (s:yC) (t7:Int) (t8:Int):Wy zex Unit (Int⊕Unit):=.i (decide (t8<t7)) (.ix t8 s.length (.bn (zgs (FO.mk (At.et ((s.getD t8.toNat default).At)) (s.getD t8.toNat default).Exp)) λr0=>.i (r0) (.k (.inl t8)) (.h (s,(),t7,(IntKind.i64.wrap (t8+1)),()) ()))) (.k (.inr ()))
def zdD (x:zex) (y:Unit):=zjF x.1 x.2.2.1 x.2.2.2.1
def zjx (n:Nat) (s:yC) (t7:Int) (t8:Int):=zy (zdD) (.inl default) n (s,(),t7,t8,()) ()
def zsB (r:Int⊕Unit):LTree ty:=.ite (isL r) (.done .ret [.lit (.int .i64 (getL r))] []) (.done (.exit 0) [] [])
def ztP:LL ty zex:=za (lSl 145) (za (lFn 164 (zk)) (za zj (za zj zk)))
def zsZ (x:zex) (y:Unit):Nat:=(x.1.length+Int.toNat x.2.2.1+Int.toNat x.2.2.2.1+1)
def zjw:=zbV base 19 [(164,zi4)] [] [(2,(kpL [0,1,7,8]))] [(2,1,[]),(2,0,(kpL [4]))] [(2,spW ztP zbaJ (zdD) (.inl default) zsB zsZ)] []
theorem zsV:zC zjw (lp (body f222) 0):=zn (id:=2) (hl:=rfl)
def zj6 (s:yC):Wy0 (Int):=.bn (zjx (s.length+(Int.ofNat s.length).toNat +Int.toNat 0+1) s (Int.ofNat s.length) 0) λr2=>.i (isL r2) (.k (getL r2)) (.k (-1:Int))
def zc1 (s:yC):=(zj6 s).fin default
def zuz:AL base (yC×Unit×Unit):=zd (ze (vSl 145)) (zd (ze (vFn 164 zdg)) zp)
def ziR:=zh zuz λx=>((zc1 x.1).1,zQ3 (zc1 x.1).2)
theorem zrd:SdP 222 ziR:=
 sT (cx':=zjw) (zi ⟨zma,trivial⟩) call222 func222 (lOK (aC zsV aN))
def zrZ:=zbp base 9 [(164,zi4),(222,ziR)]
def ziL (s:yC):Wy0 (Bool):=.bn (zc1 s) λr0=>.k (decide (r0≥0))
def zcD (s:yC):=(ziL s).fin default
def zhL:=zh zuz λx=>((zcD x.1).1,zXz (zcD x.1).2)
theorem zpI:SdP 163 zhL:=
 sT (cx':=zrZ) (zi ⟨zma,zrd,trivial⟩) call163 func163 (lOK aN)
def zOi:=zbp base 12 [(163,zhL),(164,zi4)]
def zCa (t:Term):Wy0 (Bool):=.i (decide (Int.ofNat t.Fs.length>64)) (.k true) (.bn (zcD t.Fs) λr0=>.k r0)
def zle (t:Term):=(zCa t).fin default
def zP4:AL base (Term×Unit):=zd (ze (zb7 107)) zp
def zkO:=zh zP4 λx=>((zle x.1).1,zXz (zle x.1).2)
theorem zpc:SdP 162 zkO:=
 sT (cx':=zOi) (zi ⟨zpI,zma,trivial⟩) call162 func162 (lOK aN)
abbrev zej:=yB×Unit×Int×Int×Unit
def zsD (s:yB) (t7:Int) (t8:Int):Wy zej Unit (Int⊕Unit):=.i (decide (t8<t7)) (.ix t8 s.length (.bn (zle (s.getD t8.toNat default)) λr0=>.i (r0) (.k (.inl t8)) (.h (s,(),t7,(IntKind.i64.wrap (t8+1)),()) ()))) (.k (.inr ()))
def zjf (x:zej) (y:Unit):=zsD x.1 x.2.2.1 x.2.2.2.1
def zsA (n:Nat) (s:yB) (t7:Int) (t8:Int):=zy (zjf) (.inl default) n (s,(),t7,t8,()) ()
def zsS:LL ty zej:=za (lSl 107) (za (lFn 162 (zk)) (za zj (za zj zk)))
def zsi (x:zej) (y:Unit):Nat:=(x.1.length+Int.toNat x.2.2.1+Int.toNat x.2.2.2.1+1)
def zjc:=zbV base 19 [(162,zkO)] [] [(2,(kpL [0,1,7,8]))] [(2,1,[]),(2,0,(kpL [4]))] [(2,spW zsS zbaJ (zjf) (.inl default) zsB zsi)] []
theorem zsn:zC zjc (lp (body f221) 0):=zn (id:=2) (hl:=rfl)
def ztU (s:yB):Wy0 (Int):=.bn (zsA (s.length+(Int.ofNat s.length).toNat +Int.toNat 0+1) s (Int.ofNat s.length) 0) λr2=>.i (isL r2) (.k (getL r2)) (.k (-1:Int))
def zdY (s:yB):=(ztU s).fin default
def zt5:AL base (yB×Unit×Unit):=zd (ze (vSl 107)) (zd (ze (vFn 162 zdg)) zp)
def ziw:=zh zt5 λx=>((zdY x.1).1,zQ3 (zdY x.1).2)
theorem zqX:SdP 221 ziw:=
 sT (cx':=zjc) (zi ⟨zpc,trivial⟩) call221 func221 (lOK (aC zsn aN))
def zqU:=zbp base 9 [(162,zkO),(221,ziw)]
def ziz (s:yB):Wy0 (Bool):=.bn (zdY s) λr0=>.k (decide (r0≥0))
def zct (s:yB):=(ziz s).fin default
def zhe:=zh zt5 λx=>((zct x.1).1,zXz (zct x.1).2)
theorem zo3:SdP 161 zhe:=
 sT (cx':=zqU) (zi ⟨zpc,zqX,trivial⟩) call161 func161 (lOK aN)
def zUf:=zbp base 19 [(159,zA4),(160,zFk),(161,zhe),(162,zkO)]
def zGQ (a:yB):Wy0 (Bool):=.i (decide (Int.ofNat a.length>512)) (.k false) (.bn (zzr a) λr2=>.i (decide (r2>8)) (.k false) (.bn (zEU a) λr1=>.i (decide (r1>4096)) (.k false) (.bn (zct a) λr0=>.k (!r0))))
def zlP (a:yB):=(zGQ a).fin default
def zuJ:=zh zY9 λx=>((zlP x.1).1,zXz (zlP x.1).2)
theorem zBa:SdP 103 zuJ:=
 sT (cx':=zUf) (zi ⟨zNF,zSl,zo3,zpc,trivial⟩) call103 func103 (lOK aN)
abbrev zr9:=yB×Unit×yB×Int×Int×yC×Int×Int×Unit
abbrev zGs:=Bool⊕(yB×yB×Int×Int)
abbrev zr4:=yB×yB×Int×Int×Unit
def zkC (zG:At->Bool×Bool) (a:yB) (t10:yB) (t11:Int) (t12:Int) (t40:yC) (t41:Int) (t42:Int) (t:Term):Wy zr9 (Term×Unit) zGs:=.i (decide (t42<t41)) (.ix t42 t40.length (.i (decide ((t40.getD t42.toNat default).Exp<1)) (.k (.inl false)) (.bn (zf0 (At.et ((t40.getD t42.toNat default).At))) λr6=>.i (r6) (.i ((t40.getD t42.toNat default).Exp != 1) (.k (.inl false)) (.i (decide (t42>0)) (.ix (IntKind.i64.wrap (t42 - 1)) t.Fs.length (.bn (zjl (At.et ((t.Fs.getD (IntKind.i64.wrap (t42 - 1)).toNat default).At)) (At.et ((t40.getD t42.toNat default).At))) λr1=>.i (decide (r1≥0)) (.k (.inl false)) (.bn (zG (At.et ((t40.getD t42.toNat default).At))) λr0=>.i (!r0) (.k (.inl false)) (.h (a,(),t10,t11,t12,t40,t41,(IntKind.i64.wrap (t42+1)),()) (t,()))))) (.bn (zG (At.et ((t40.getD t42.toNat default).At))) λr2=>.i (!r2) (.k (.inl false)) (.h (a,(),t10,t11,t12,t40,t41,(IntKind.i64.wrap (t42+1)),()) (t,()))))) (.i (decide (t42>0)) (.ix (IntKind.i64.wrap (t42 - 1)) t.Fs.length (.bn (zjl (At.et ((t.Fs.getD (IntKind.i64.wrap (t42 - 1)).toNat default).At)) (At.et ((t40.getD t42.toNat default).At))) λr4=>.i (decide (r4≥0)) (.k (.inl false)) (.bn (zG (At.et ((t40.getD t42.toNat default).At))) λr3=>.i (!r3) (.k (.inl false)) (.h (a,(),t10,t11,t12,t40,t41,(IntKind.i64.wrap (t42+1)),()) (t,()))))) (.bn (zG (At.et ((t40.getD t42.toNat default).At))) λr5=>.i (!r5) (.k (.inl false)) (.h (a,(),t10,t11,t12,t40,t41,(IntKind.i64.wrap (t42+1)),()) (t,()))))))) (.k (.inr (a,t10,t11,t12)))
def zvM (zG:At->Bool×Bool) (x:zr9) (y:Term×Unit):=zkC zG x.1 x.2.2.1 x.2.2.2.1 x.2.2.2.2.1 x.2.2.2.2.2.1 x.2.2.2.2.2.2.1 x.2.2.2.2.2.2.2.1 y.1
def zvV (zG:At->Bool×Bool) (n:Nat) (a:yB) (t10:yB) (t11:Int) (t12:Int) (t40:yC) (t41:Int) (t42:Int) (t:Term):=zy (zvM zG) (.inl default) n (a,(),t10,t11,t12,t40,t41,t42,()) (t,())
def zQs (r:zGs):LTree ty:=.ite (isL r) (.done .ret [.lit (.bool (getL r))] []) (.done (.exit 2) [.sl 107 (getR r).1,.sl 107 (getR r).2.1,.lit (.int .i64 (getR r).2.2.1),.lit (.int .i64 (getR r).2.2.2)] [])
def zSf:LL ty zr9:=za (lSl 107) (za (zcm 340 0) (za (lSl 107) (za zj (za zj (za (lSl 145) (za zj (za zj zk)))))))
def zS3:BL ty (Term×Unit):=zdx (zdi (λx=>(⟨x.1,x.2.1⟩:Term)) (λx=>(x.Cf,x.Fs,())) (λ_=>rfl) (za (zL .i64) (za (lSl 145) zk))) false (zY)
def zkx (zG:At->Bool×Bool) (a:yB) (t10:yB) (t11:Int) (t12:Int):Wy zr4 Unit (Bool⊕Unit):=.i (decide (t12<t11)) (.ix t12 t10.length (.i (decide ((t10.getD t12.toNat default).Cf<1)) (.k (.inl false)) (.i (decide ((t10.getD t12.toNat default).Cf>1152921504606846976)) (.k (.inl false)) (.i (decide (t12>0)) (.ix (IntKind.i64.wrap (t12 - 1)) a.length (.bn (zb4 (a.getD (IntKind.i64.wrap (t12 - 1)).toNat default) (t10.getD t12.toNat default)) λr15=>.i (decide (r15≥0)) (.k (.inl false)) (.bn (zvV zG (a.length+t10.length+t11.toNat +t12.toNat +(t10.getD t12.toNat default).Fs.length+(Int.ofNat (t10.getD t12.toNat default).Fs.length).toNat +Int.toNat 0+(t10.getD t12.toNat default).Fs.length+1) a t10 t11 t12 (t10.getD t12.toNat default).Fs (Int.ofNat (t10.getD t12.toNat default).Fs.length) 0 (t10.getD t12.toNat default)) λr14=>.i (isL r14) (.k (.inl (getL r14))) (.h ((getR r14).1,(getR r14).2.1,(getR r14).2.2.1,(IntKind.i64.wrap ((getR r14).2.2.2+1)),()) ())))) (.bn (zvV zG (a.length+t10.length+t11.toNat +t12.toNat +(t10.getD t12.toNat default).Fs.length+(Int.ofNat (t10.getD t12.toNat default).Fs.length).toNat +Int.toNat 0+(t10.getD t12.toNat default).Fs.length+1) a t10 t11 t12 (t10.getD t12.toNat default).Fs (Int.ofNat (t10.getD t12.toNat default).Fs.length) 0 (t10.getD t12.toNat default)) λr16=>.i (isL r16) (.k (.inl (getL r16))) (.h ((getR r16).1,(getR r16).2.1,(getR r16).2.2.1,(IntKind.i64.wrap ((getR r16).2.2.2+1)),()) ())))))) (.k (.inr ()))
def zvU (zG:At->Bool×Bool) (x:zr4) (y:Unit):=zkx zG x.1 x.2.1 x.2.2.1 x.2.2.2.1
def zD8 (zG:At->Bool×Bool) (n:Nat) (a:yB) (t10:yB) (t11:Int) (t12:Int):=zy (zvU zG) (.inl default) n (a,t10,t11,t12,()) ()
def zSH:LL ty zr4:=za (lSl 107) (za (lSl 107) (za zj (za zj zk)))
def zQf (x:zr9) (y:Term×Unit):Nat:=(x.1.length+x.2.2.1.length+Int.toNat x.2.2.2.1+Int.toNat x.2.2.2.2.1+x.2.2.2.2.2.1.length+Int.toNat x.2.2.2.2.2.2.1+Int.toNat x.2.2.2.2.2.2.2.1+y.1.Fs.length+1)
def zQc (x:zr4) (y:Unit):Nat:=(x.1.length+x.2.1.length+Int.toNat x.2.2.1+Int.toNat x.2.2.2.1+1)
def zv2 (zG:At->Bool×Bool):=zbV base 85 [(103,zuJ),(104,ziT),(105,zj7),(106,zmW),(107,(znj zG))] [] [(4,(kpL [0,10,11,12])),(9,(kpL [0,4,10,11,12,40,41,42]))] [(4,1,[]),(4,0,(kpL [2])),(9,3,(kpL [0,10,11,12])),(9,0,(kpL [2]))] [(9,spW zSf zS3 (zvM zG) (.inl default) zQs zQf),(4,spW zSH zbaJ (zvU zG) (.inl default) znV zQc)] []
theorem zQ6 (zG:At->Bool×Bool):zC (zv2 zG) (lp (body f52) 1):=zn (id:=9) (hl:=rfl)
theorem zRj (zG:At->Bool×Bool):zC (zv2 zG) (lp (body f52) 0):=zn (id:=4) (hl:=rfl)
def zE5 (zG:At->Bool×Bool) (a:yB):Wy0 (Bool):=.bn (zlP a) λr21=>.i (!r21) (.k false) (.bn (zD8 zG (a.length+a.length+(Int.ofNat a.length).toNat +Int.toNat 0+1) a a (Int.ofNat a.length) 0) λr20=>.i (isL r20) (.k (getL r20)) (.k true))
def znD (zG:At->Bool×Bool) (a:yB):=(zE5 zG a).fin default
theorem zMl (zG:At->Bool×Bool) (zN2:SdP 107 (znj zG)):SdP 52 (ziu (znD zG)):=
 sT (cx':=(zv2 zG)) (zi ⟨zBa,zl5,znW,zuR,zN2,trivial⟩) call52 func52 (lOK (aC (zRj zG) (aC (zQ6 zG) aN)))
def z8Y:=zbp base 36 []
def zVK (v:Value):Wy0 (Bool):=.i (v.Kind==0) (.k (v.Text.toList==(ByteArray.mk #[]).toList)) (.i (v.Kind==1) (.i (v.Int==0) (.k (decide (Int.ofNat v.Text.size<=255))) (.k false)) (.i (v.Kind==2) (.i (v.Int==0) (.k (v.Text.toList==(ByteArray.mk #[]).toList)) (.i (v.Int==1) (.k (v.Text.toList==(ByteArray.mk #[]).toList)) (.k false))) (.k false)))
def zqA (v:Value):=(zVK v).fin default
def zbbk:AL base (Value×Unit):=zd (ze (zb7 79)) zp
def zrJ:=zh zbbk λx=>((zqA x.1).1,zXz (zqA x.1).2)
theorem zvb:SdP 91 zrJ:=
 sT (cx':=z8Y) (zi trivial) call91 func91 (lOK aN)
def zNY:=zbp base 27 [(91,zrJ)]
def zBd (w:Wd) (p1:Value) (p2:Int):Wy0 (Bool):=.bn (zqA w.Value) λr0=>.i (!r0) (.k true) (.i (w.Value.Kind != p1.Kind) (.k true) (.i (p2==0) (.k (w.Value.Int != 1)) (.k false)))
def zhZ (w:Wd) (p1:Value) (p2:Int):=(zBd w p1 p2).fin default
def zOr:AL base (Wd×Value×(Int×Unit)×Unit):=zd (ze (zb7 169)) (zd (ze (z5q 79)) (zd (ze (z8A (zAL zeZ zdg))) zp))
def zke:=zh zOr λx=>((zhZ x.1 x.2.1 x.2.2.1.1).1,zXz (zhZ x.1 x.2.1 x.2.2.1.1).2)
theorem znR:SdP 229 zke:=
 sT (cx':=zNY) (zi ⟨zvb,trivial⟩) call229 func229 (lOK aN)
abbrev zdP:=yD×(Value×(Int×Unit)×Unit)×Int×Int×Unit
def zq2 (s:yD) (f_0:Value) (f_1:Int) (t7:Int) (t8:Int):Wy zdP Unit (Int⊕Unit):=.i (decide (t8<t7)) (.ix t8 s.length (.bn (zhZ (s.getD t8.toNat default) f_0 f_1) λr0=>.i (r0) (.k (.inl t8)) (.h (s,(f_0,(f_1,()),()),t7,(IntKind.i64.wrap (t8+1)),()) ()))) (.k (.inr ()))
def zhS (x:zdP) (y:Unit):=zq2 x.1 x.2.1.1 x.2.1.2.1.1 x.2.2.1 x.2.2.2.1
def zq1 (n:Nat) (s:yD) (f_0:Value) (f_1:Int) (t7:Int) (t8:Int):=zy (zhS) (.inl default) n (s,(f_0,(f_1,()),()),t7,t8,()) ()
def zqP:LL ty zdP:=za (lSl 169) (za (lFn 229 (za (zIK (zdi (λx=>(⟨x.1,x.2.1,x.2.2.1⟩:Value)) (λx=>(x.Kind,x.Int,x.Text,())) (λ_=>rfl) (za zj (za zj (za zoZ zk)))) 0) (za (zIK (za zj zk) 0) zk))) (za zj (za zj zk)))
def zql (x:zdP) (y:Unit):Nat:=(x.1.length+Int.toNat x.2.1.2.1.1+Int.toNat x.2.2.1+Int.toNat x.2.2.2.1+1)
def zhV:=zbV base 19 [(229,zke)] [] [(2,(kpL [0,1,7,8]))] [(2,1,[]),(2,0,(kpL [4]))] [(2,spW zqP zbaJ (zhS) (.inl default) zsB zql)] []
theorem zp6:zC zhV (lp (body f228) 0):=zn (id:=2) (hl:=rfl)
def zrV (s:yD) (f_0:Value) (f_1:Int):Wy0 (Int):=.bn (zq1 (s.length+f_1.toNat +(Int.ofNat s.length).toNat +Int.toNat 0+1) s f_0 f_1 (Int.ofNat s.length) 0) λr2=>.i (isL r2) (.k (getL r2)) (.k (-1:Int))
def zdq (s:yD) (f_0:Value) (f_1:Int):=(zrV s f_0 f_1).fin default
def zrY:AL base (yD×(Value×(Int×Unit)×Unit)×Unit):=zd (ze (vSl 169)) (zd (ze (vFn 229 (zAL (z5q 79) (zAL (z8A (zAL zeZ zdg)) zdg)))) zp)
def zhf:=zh zrY λx=>((zdq x.1 x.2.1.1 x.2.1.2.1.1).1,zQ3 (zdq x.1 x.2.1.1 x.2.1.2.1.1).2)
theorem zoP:SdP 228 zhf:=
 sT (cx':=zhV) (zi ⟨znR,trivial⟩) call228 func228 (lOK (aC zp6 aN))
def zpb:=zbp base 9 [(228,zhf),(229,zke)]
def zhp (s:yD) (f_0:Value) (f_1:Int):Wy0 (Bool):=.bn (zdq s f_0 f_1) λr0=>.k (decide (r0≥0))
def zbB (s:yD) (f_0:Value) (f_1:Int):=(zhp s f_0 f_1).fin default
def zgj:=zh zrY λx=>((zbB x.1 x.2.1.1 x.2.1.2.1.1).1,zXz (zbB x.1 x.2.1.1 x.2.1.2.1.1).2)
theorem zm9:SdP 178 zgj:=
 sT (cx':=zpb) (zi ⟨zoP,znR,trivial⟩) call178 func178 (lOK aN)
def zSw:=zbp base 43 [(91,zrJ),(178,zgj),(229,zke)]
def zEN (fn:Int) (items:yD) (op:Int) (bound:Value):Wy0 (Bool):=.i (decide (fn<0)) (.k false) (.i (decide (fn>3)) (.k false) (.i (decide (op<5)) (.k false) (.i (decide (op>10)) (.k false) (.bn (zqA bound) λr3=>.i (!r3) (.k false) (.i (fn==0) (.i (bound.Kind != 0) (.k false) (.bn (zbB items bound fn) λr0=>.k (!r0))) (.i (fn==1) (.i (bound.Kind != 0) (.k false) (.bn (zbB items bound fn) λr1=>.k (!r1))) (.bn (zbB items bound fn) λr2=>.k (!r2))))))))
def zkr (fn:Int) (items:yD) (op:Int) (bound:Value):=(zEN fn items op bound).fin default
def zTK:AL base (Int×yD×Int×Value×Unit):=zd (ze zeZ) (zd (ze (vSl 169)) (zd (ze zeZ) (zd (ze (zb7 79)) zp)))
def zsY:=zh zTK λx=>((zkr x.1 x.2.1 x.2.2.1 x.2.2.2.1).1,zXz (zkr x.1 x.2.1 x.2.2.1 x.2.2.2.1).2)
theorem zzw:SdP 181 zsY:=
 sT (cx':=zSw) (zi ⟨zvb,zm9,znR,trivial⟩) call181 func181 (lOK aN)
def zHr:=zbp base 7 []
def zws (t:Term):Wy0 (Bool):=.k (Int.ofNat t.Fs.length==0)
def zhK (t:Term):=(zws t).fin default
def zhF:=zh zP4 λx=>((zhK x.1).1,zXz (zhK x.1).2)
theorem zkV:SdP 227 zhF:=
 sT (cx':=zHr) (zi trivial) call227 func227 (lOK aN)
abbrev zek:=yB×Unit×Int×Int×Unit
def zsE (s:yB) (t7:Int) (t8:Int):Wy zek Unit (Int⊕Unit):=.i (decide (t8<t7)) (.ix t8 s.length (.i ((zhK (s.getD t8.toNat default)).2) (.k (.inl t8)) (.h (s,(),t7,(IntKind.i64.wrap (t8+1)),()) ()))) (.k (.inr ()))
def zji (x:zek) (y:Unit):=zsE x.1 x.2.2.1 x.2.2.2.1
def zsG (n:Nat) (s:yB) (t7:Int) (t8:Int):=zy (zji) (.inl default) n (s,(),t7,t8,()) ()
def zsQ:LL ty zek:=za (lSl 107) (za (lFn 227 (zk)) (za zj (za zj zk)))
def zsl (x:zek) (y:Unit):Nat:=(x.1.length+Int.toNat x.2.2.1+Int.toNat x.2.2.2.1+1)
def zja:=zbV base 19 [(227,zhF)] [] [(2,(kpL [0,1,7,8]))] [(2,1,[]),(2,0,(kpL [4]))] [(2,spW zsQ zbaJ (zji) (.inl default) zsB zsl)] []
theorem zsm:zC zja (lp (body f221) 0):=zn (id:=2) (hl:=rfl)
def ztz (s:yB):Wy0 (Int):=.bn (zsG (s.length+(Int.ofNat s.length).toNat +Int.toNat 0+1) s (Int.ofNat s.length) 0) λr0=>.i (isL r0) (.k (getL r0)) (.k (-1:Int))
def zdX (s:yB):=(ztz s).fin default
def ztM:AL base (yB×Unit×Unit):=zd (ze (vSl 107)) (zd (ze (vFn 227 zdg)) zp)
def ziC:=zh ztM λx=>((zdX x.1).1,zQ3 (zdX x.1).2)
theorem zqW:SdP 221 ziC:=
 sT (cx':=zja) (zi ⟨zkV,trivial⟩) call221 func221 (lOK (aC zsm aN))
def zqI:=zbp base 9 [(221,ziC),(227,zhF)]
def ziA (s:yB):Wy0 (Bool):=.bn (zdX s) λr0=>.k (decide (r0≥0))
def zdv (s:yB):=(ziA s).fin default
def zhn:=zh ztM λx=>((zdv x.1).1,zXz (zdv x.1).2)
theorem zoV:SdP 161 zhn:=
 sT (cx':=zqI) (zi ⟨zqW,zkV,trivial⟩) call161 func161 (lOK aN)
def zLD:=zbp base 5 [(161,zhn),(227,zhF)]
def zzN (a:yB):Wy0 (Bool):=.bn (zdv a) λr0=>.k r0
def zfm (a:yB):=(zzN a).fin default
def znx:=zh zY9 λx=>((zfm x.1).1,zXz (zfm x.1).2)
theorem zvd:SdP 177 znx:=
 sT (cx':=zLD) (zi ⟨zoV,zkV,trivial⟩) call177 func177 (lOK aN)
def zNQ:=zbp base 14 []
def zAZ (a:yB):Wy0 (Bool):=.i (Int.ofNat a.length==1) (.ix 0 a.length (.k (Int.ofNat (a.getD (Int.toNat 0) default).Fs.length==0))) (.k false)
def zh1 (a:yB):=(zAZ a).fin default
def zo4:=zh zY9 λx=>((zh1 x.1).1,zXz (zh1 x.1).2)
theorem zwx:SdP 175 zo4:=
 sT (cx':=zNQ) (zi trivial) call175 func175 (lOK aN)
def zUd:=zbp base 42 [(105,zj7)]
def zGu (a:yB):Wy0 (Bool):=.i (Int.ofNat a.length != 1) (.k false) (.ix 0 a.length (.i ((a.getD (Int.toNat 0) default).Cf != 1) (.k false) (.ix 0 a.length (.i (Int.ofNat (a.getD (Int.toNat 0) default).Fs.length != 1) (.k false) (.ix 0 a.length (.ix 0 ((a.getD (Int.toNat 0) default).Fs.length) (.i (((a.getD (Int.toNat 0) default).Fs.getD (Int.toNat 0) default).Exp==1) (.i (((a.getD (Int.toNat 0) default).Fs.getD (Int.toNat 0) default).At.Kind==2) (.k true) (.bn (zf0 (At.et (((a.getD (Int.toNat 0) default).Fs.getD (Int.toNat 0) default).At))) λr0=>.k r0)) (.k false))))))))
def zlR (a:yB):=(zGu a).fin default
def zum:=zh zY9 λx=>((zlR x.1).1,zXz (zlR x.1).2)
theorem zA5:SdP 176 zum:=
 sT (cx':=zUd) (zi ⟨znW,trivial⟩) call176 func176 (lOK aN)
def z5J:=zbp base 11 []
def zRZ (id:RowID):Wy0 (Bool):=.i (decide (id.Table≥1)) (.k (decide (id.Seq≥1))) (.k false)
def zrj (id:RowID):=(zRZ id).fin default
def zu2:=zh zbeA λx=>((zrj x.1).1,zXz (zrj x.1).2)
theorem zzB:SdP 116 zu2:=
 sT (cx':=z5J) (zi trivial) call116 func116 (lOK aN)
abbrev zfa:=yD×Unit×Int×Unit
def zeE (x_:yD) (i:Int):Wy zfa Unit (Bool⊕Unit):=.i (decide (i>0)) (.ix i x_.length (.ix (IntKind.i64.wrap (i - 1)) x_.length (.bn (z7 (x_.getD i.toNat default) (x_.getD (IntKind.i64.wrap (i - 1)).toNat default)) λr0=>.i (decide (r0<0)) (.k (.inl false)) (.h (x_,(),(IntKind.i64.wrap (i - 1)),()) ())))) (.k (.inr ()))
def zhW (x:zfa) (y:Unit):=zeE x.1 x.2.2.1
def zeF (n:Nat) (x_:yD) (i:Int):=zy (zhW) (.inl default) n (x_,(),i,()) ()
def zqJ:LL ty zfa:=za (lSl 169) (za (lFn 172 (zk)) (za zj zk))
def zh4:=zbV base 25 [(172,zfO)] [] [(2,(kpL [0,1,5]))] [(2,1,[]),(2,0,(kpL [4]))] [(2,spW zqJ zbaJ (zhW) (.inl default) znV λx y=>(x.1.length+Int.toNat x.2.2.1+1))] []
theorem zpP:zC zh4 (lp (body f180) 0):=zn (id:=2) (hl:=rfl)
def ziv (x_:yD):Wy0 (Bool):=.bn (zeF (x_.length+(IntKind.i64.wrap (Int.ofNat x_.length - 1)).toNat +1) x_ (IntKind.i64.wrap (Int.ofNat x_.length - 1))) λr2=>.i (isL r2) (.k (getL r2)) (.k true)
def zcu (x_:yD):=(ziv x_).fin default
def zrM:AL base (yD×Unit×Unit):=zd (ze (vSl 169)) (zd (ze (vFn 172 zdg)) zp)
def zhg:=zh zrM λx=>((zcu x.1).1,zXz (zcu x.1).2)
theorem zoW:SdP 180 zhg:=
 sT (cx':=zh4) (zi ⟨zic,trivial⟩) call180 func180 (lOK (aC zpP aN))
def zc3 (zb:yA->Bool×Bool) (zf:yB->Bool×Bool) (zc:yD->Bool×Bool) (zg:Wd->Bool×Bool):=zbp base 149 [(115,zot),(116,zu2),(172,zfO),(173,(zcw zb)),(174,(ziu zf)),(175,zo4),(176,zum),(177,znx),(178,(zcV zc)),(179,(zdF zg)),(180,zhg),(181,zsY)]
def zcj (zb:yA->Bool×Bool) (zf:yB->Bool×Bool) (zc:yD->Bool×Bool) (zg:Wd->Bool×Bool) (x_:At):Wy0 (Bool):=.i (x_.Kind==0) (.i (x_.Func != 0) (.k false) (.i (Int.ofNat x_.Items.length != 0) (.k false) (.i (x_.Op != 0) (.k false) (.i (!(x_.Bd.Kind==0&&(x_.Bd.Int==0&&(x_.Bd.Text.toList==(ByteArray.mk #[]).toList&&true)))) (.k false) (.bn (zb x_.Ag) λr1=>.i (r1) (.k false) (.bn (zrj x_.Row) λr0=>.i (r0) (.k (Int.ofNat x_.Ag.length==0)) (.k false))))))) (.i (x_.Kind==1) (.i (x_.Func != 0) (.k false) (.i (Int.ofNat x_.Items.length != 0) (.k false) (.i (x_.Op != 0) (.k false) (.i (!(x_.Bd.Kind==0&&(x_.Bd.Int==0&&(x_.Bd.Text.toList==(ByteArray.mk #[]).toList&&true)))) (.k false) (.i (!(x_.Row.Table==0&&(x_.Row.Seq==0&&true))) (.k false) (.bn (zb x_.Ag) λr3=>.i (r3) (.k false) (.i (Int.ofNat x_.Ag.length==2) (.ix 0 x_.Ag.length (.ix 1 x_.Ag.length (.bn (zgx (x_.Ag.getD (Int.toNat 0) default) (x_.Ag.getD (Int.toNat 1) default)) λr2=>.k (!r2)))) (.k false)))))))) (.i (x_.Kind==2) (.i (x_.Func != 0) (.k false) (.i (Int.ofNat x_.Items.length != 0) (.k false) (.i (x_.Op != 0) (.k false) (.i (!(x_.Bd.Kind==0&&(x_.Bd.Int==0&&(x_.Bd.Text.toList==(ByteArray.mk #[]).toList&&true)))) (.k false) (.i (!(x_.Row.Table==0&&(x_.Row.Seq==0&&true))) (.k false) (.bn (zb x_.Ag) λr6=>.i (r6) (.k false) (.i (Int.ofNat x_.Ag.length==1) (.ix 0 x_.Ag.length (.bn (zh1 (x_.Ag.getD (Int.toNat 0) default)) λr5=>.i (!r5) (.ix 0 x_.Ag.length (.bn (zlR (x_.Ag.getD (Int.toNat 0) default)) λr4=>.k (!r4))) (.k false))) (.k false)))))))) (.i (x_.Kind==3) (.i (x_.Func != 0) (.k false) (.i (Int.ofNat x_.Items.length != 0) (.k false) (.i (x_.Op != 0) (.k false) (.i (!(x_.Bd.Kind==0&&(x_.Bd.Int==0&&(x_.Bd.Text.toList==(ByteArray.mk #[]).toList&&true)))) (.k false) (.i (!(x_.Row.Table==0&&(x_.Row.Seq==0&&true))) (.k false) (.bn (zb x_.Ag) λr8=>.i (r8) (.k false) (.i (Int.ofNat x_.Ag.length==1) (.ix 0 x_.Ag.length (.bn (zfm (x_.Ag.getD (Int.toNat 0) default)) λr7=>.k (!r7))) (.k false)))))))) (.i (x_.Kind==4) (.i (!(x_.Row.Table==0&&(x_.Row.Seq==0&&true))) (.k false) (.bn (zb x_.Ag) λr12=>.i (r12) (.k false) (.bn (zc x_.Items) λr11=>.i (Int.ofNat x_.Ag.length==0) (.i (decide (Int.ofNat x_.Items.length>0)) (.i (!r11) (.bn (zcu x_.Items) λr10=>.i (r10) (.bn (zkr x_.Func x_.Items x_.Op x_.Bd) λr9=>.k r9) (.k false)) (.k false)) (.k false)) (.k false)))) (.i (x_.Func != 0) (.k false) (.i (Int.ofNat x_.Items.length != 0) (.k false) (.i (x_.Op != 0) (.k false) (.i (!(x_.Bd.Kind==0&&(x_.Bd.Int==0&&(x_.Bd.Text.toList==(ByteArray.mk #[]).toList&&true)))) (.k false) (.i (!(x_.Row.Table==0&&(x_.Row.Seq==0&&true))) (.k false) (.bn (zb x_.Ag) λr14=>.i (r14) (.k false) (.k false)))))))))))
def zjV (zb:yA->Bool×Bool) (zf:yB->Bool×Bool) (zc:yD->Bool×Bool) (zg:Wd->Bool×Bool) (x_:At):=(zcj zb zf zc zg x_).fin default
theorem zIu (zb:yA->Bool×Bool) (zf:yB->Bool×Bool) (zc:yD->Bool×Bool) (zg:Wd->Bool×Bool) (v_Row:RowID) (v_Args:yA) (v_Func:Int) (v_Items:yD) (v_Op:Int) (v_Bound:Value)  :zeQ (zc3 zb zf zc zg) f107 (body f107) ⟨[.pure],[]⟩ [.pure (.agg (base.enc 143 (At.mk (Int.ofNat 0) v_Row v_Args v_Func v_Items v_Op v_Bound)))]=(zcj zb zf zc zg (At.mk (Int.ofNat 0) v_Row v_Args v_Func v_Items v_Op v_Bound)).ev noH (λr=>some (zXz r)) none:=by kernel_rfl
theorem zH4 (zb:yA->Bool×Bool) (zf:yB->Bool×Bool) (zc:yD->Bool×Bool) (zg:Wd->Bool×Bool) (v_Row:RowID) (v_Args:yA) (v_Func:Int) (v_Items:yD) (v_Op:Int) (v_Bound:Value)  :zeQ (zc3 zb zf zc zg) f107 (body f107) ⟨[.pure],[]⟩ [.pure (.agg (base.enc 143 (At.mk (Int.ofNat 1) v_Row v_Args v_Func v_Items v_Op v_Bound)))]=(zcj zb zf zc zg (At.mk (Int.ofNat 1) v_Row v_Args v_Func v_Items v_Op v_Bound)).ev noH (λr=>some (zXz r)) none:=by kernel_rfl
theorem zIC (zb:yA->Bool×Bool) (zf:yB->Bool×Bool) (zc:yD->Bool×Bool) (zg:Wd->Bool×Bool) (v_Row:RowID) (v_Args:yA) (v_Func:Int) (v_Items:yD) (v_Op:Int) (v_Bound:Value)  :zeQ (zc3 zb zf zc zg) f107 (body f107) ⟨[.pure],[]⟩ [.pure (.agg (base.enc 143 (At.mk (Int.ofNat 2) v_Row v_Args v_Func v_Items v_Op v_Bound)))]=(zcj zb zf zc zg (At.mk (Int.ofNat 2) v_Row v_Args v_Func v_Items v_Op v_Bound)).ev noH (λr=>some (zXz r)) none:=by kernel_rfl
theorem zIT (zb:yA->Bool×Bool) (zf:yB->Bool×Bool) (zc:yD->Bool×Bool) (zg:Wd->Bool×Bool) (v_Row:RowID) (v_Args:yA) (v_Func:Int) (v_Items:yD) (v_Op:Int) (v_Bound:Value)  :zeQ (zc3 zb zf zc zg) f107 (body f107) ⟨[.pure],[]⟩ [.pure (.agg (base.enc 143 (At.mk (Int.ofNat 3) v_Row v_Args v_Func v_Items v_Op v_Bound)))]=(zcj zb zf zc zg (At.mk (Int.ofNat 3) v_Row v_Args v_Func v_Items v_Op v_Bound)).ev noH (λr=>some (zXz r)) none:=by kernel_rfl
theorem zIc (zb:yA->Bool×Bool) (zf:yB->Bool×Bool) (zc:yD->Bool×Bool) (zg:Wd->Bool×Bool) (v_Row:RowID) (v_Args:yA) (v_Func:Int) (v_Items:yD) (v_Op:Int) (v_Bound:Value)  :zeQ (zc3 zb zf zc zg) f107 (body f107) ⟨[.pure],[]⟩ [.pure (.agg (base.enc 143 (At.mk (Int.ofNat 4) v_Row v_Args v_Func v_Items v_Op v_Bound)))]=(zcj zb zf zc zg (At.mk (Int.ofNat 4) v_Row v_Args v_Func v_Items v_Op v_Bound)).ev noH (λr=>some (zXz r)) none:=by kernel_rfl
theorem zIJ (zb:yA->Bool×Bool) (zf:yB->Bool×Bool) (zc:yD->Bool×Bool) (zg:Wd->Bool×Bool) (n:Nat) (v_Row:RowID) (v_Args:yA) (v_Func:Int) (v_Items:yD) (v_Op:Int) (v_Bound:Value)  :zeQ (zc3 zb zf zc zg) f107 (body f107) ⟨[.pure],[]⟩ [.pure (.agg (base.enc 143 (At.mk (Int.ofNat (n+5)) v_Row v_Args v_Func v_Items v_Op v_Bound)))]=(zcj zb zf zc zg (At.mk (Int.ofNat (n+5)) v_Row v_Args v_Func v_Items v_Op v_Bound)).ev noH (λr=>some (zXz r)) none:=by kernel_rfl
theorem zJq (zb:yA->Bool×Bool) (zf:yB->Bool×Bool) (zc:yD->Bool×Bool) (zg:Wd->Bool×Bool) (n:Nat) (v_Row:RowID) (v_Args:yA) (v_Func:Int) (v_Items:yD) (v_Op:Int) (v_Bound:Value)  :zeQ (zc3 zb zf zc zg) f107 (body f107) ⟨[.pure],[]⟩ [.pure (.agg (base.enc 143 (At.mk (Int.negSucc n) v_Row v_Args v_Func v_Items v_Op v_Bound)))]=(zcj zb zf zc zg (At.mk (Int.negSucc n) v_Row v_Args v_Func v_Items v_Op v_Bound)).ev noH (λr=>some (zXz r)) none:=by kernel_rfl
theorem zJI (zb:yA->Bool×Bool) (zf:yB->Bool×Bool) (zc:yD->Bool×Bool) (zg:Wd->Bool×Bool) (x_:At):zeQ (zc3 zb zf zc zg) f107 (body f107) ⟨[.pure],[]⟩ [.pure (.agg (base.enc 143 x_))]=(zcj zb zf zc zg x_).ev noH (λr=>some (zXz r)) none:=by
 obtain ⟨v_Kind,v_Row,v_Args,v_Func,v_Items,v_Op,v_Bound⟩:=x_
 match v_Kind with
 | .ofNat 0=>exact zIu zb zf zc zg v_Row v_Args v_Func v_Items v_Op v_Bound 
 | .ofNat 1=>exact zH4 zb zf zc zg v_Row v_Args v_Func v_Items v_Op v_Bound 
 | .ofNat 2=>exact zIC zb zf zc zg v_Row v_Args v_Func v_Items v_Op v_Bound 
 | .ofNat 3=>exact zIT zb zf zc zg v_Row v_Args v_Func v_Items v_Op v_Bound 
 | .ofNat 4=>exact zIc zb zf zc zg v_Row v_Args v_Func v_Items v_Op v_Bound 
 | .ofNat (n+5)=>exact zIJ zb zf zc zg n v_Row v_Args v_Func v_Items v_Op v_Bound 
 | .negSucc n=>exact zJq zb zf zc zg n v_Row v_Args v_Func v_Items v_Op v_Bound 
theorem zGU (zb:yA->Bool×Bool) (zf:yB->Bool×Bool) (zc:yD->Bool×Bool) (zg:Wd->Bool×Bool) (zmB:SdP 173 (zcw zb)) (zgo:SdP 174 (ziu zf)) (zn9:SdP 178 (zcV zc)) (zgp:SdP 179 (zdF zg)):SdP 107 (znj (zjV zb zf zc zg)):=
 z8s (cx':=(zc3 zb zf zc zg)) zCq ze3 zbcA (zi ⟨zul,zzB,zic,zmB,zgo,zwx,zA5,zvd,zn9,zgp,zoW,zzw,trivial⟩) call107 func107 (c:=body f107) (by kernel_rfl) (ztx (l:=[]) (by kernel_rfl) trivial) (sg:=⟨[.pure],[]⟩) (A:=zbcy) (res:=zXz) (W:=λx=>zcj zb zf zc zg x.1) (z:=default) (λx=>zJI zb zf zc zg x.1) (λ_=>by kernel_rfl)
def zG6 (zbO:yB->Bool×Bool):=zbp base 11 [(52,(ziu zbO))]
def zwq (zbO:yB->Bool×Bool) (a:yB):Wy0 (Bool):=.bn (zbO a) λr0=>.i (!r0) (.k true) (.k (Int.ofNat a.length==0))
def zkI (zbO:yB->Bool×Bool) (a:yB):=(zwq zbO a).fin default
theorem zEl (zbO:yB->Bool×Bool) (zw0:SdP 52 (ziu zbO)):SdP 174 (ziu (zkI zbO)):=
 sT (cx':=(zG6 zbO)) (zi ⟨zw0,trivial⟩) call174 func174 (lOK aN)
def zHv (zbO:yB->Bool×Bool):=zbp base 13 [(52,(ziu zbO))]
def zwB (zbO:yB->Bool×Bool) (w:Wd):Wy0 (Bool):=.bn (zbO w.Ann) λr0=>.i (!r0) (.k true) (.k (Int.ofNat w.Ann.length==0))
def zkP (zbO:yB->Bool×Bool) (w:Wd):=(zwB zbO w).fin default
theorem zEg (zbO:yB->Bool×Bool) (zw0:SdP 52 (ziu zbO)):SdP 179 (zdF (zkP zbO)):=
 sT (cx':=(zHv zbO)) (zi ⟨zw0,trivial⟩) call179 func179 (lOK aN)
def zmc (zf:yB->Bool×Bool) (zX:yA->Bool×Int):=zbp base 9 [(174,(ziu zf)),(226,(zcQ zX))]
def zfC (zf:yB->Bool×Bool) (zX:yA->Bool×Int) (s:yA):Wy0 (Bool):=.bn (zX s) λr0=>.k (decide (r0≥0))
def zcv (zf:yB->Bool×Bool) (zX:yA->Bool×Int) (s:yA):=(zfC zf zX s).fin default
theorem zk4 (zf:yB->Bool×Bool) (zX:yA->Bool×Int) (zgo:SdP 174 (ziu zf)) (znB:SdP 226 (zcQ zX)):SdP 173 (zcw (zcv zf zX)):=
 sT (cx':=(zmc zf zX)) (zi ⟨zgo,znB,trivial⟩) call173 func173 (lOK aN)
def znL (zg:Wd->Bool×Bool) (zba:yD->Bool×Int):=zbp base 9 [(179,(zdF zg)),(228,(zc8 zba))]
def zgG (zg:Wd->Bool×Bool) (zba:yD->Bool×Int) (s:yD):Wy0 (Bool):=.bn (zba s) λr0=>.k (decide (r0≥0))
def zcY (zg:Wd->Bool×Bool) (zba:yD->Bool×Int) (s:yD):=(zgG zg zba s).fin default
theorem zmy (zg:Wd->Bool×Bool) (zba:yD->Bool×Int) (zgp:SdP 179 (zdF zg)) (zpY:SdP 228 (zc8 zba)):SdP 178 (zcV (zcY zg zba)):=
 sT (cx':=(znL zg zba)) (zi ⟨zgp,zpY,trivial⟩) call178 func178 (lOK aN)
abbrev zdf:=yA×Unit×Int×Int×Unit
def znq (zf:yB->Bool×Bool) (s:yA) (t7:Int) (t8:Int):Wy zdf Unit (Int⊕Unit):=.i (decide (t8<t7)) (.ix t8 s.length (.bn (zf (s.getD t8.toNat default)) λr0=>.i (r0) (.k (.inl t8)) (.h (s,(),t7,(IntKind.i64.wrap (t8+1)),()) ()))) (.k (.inr ()))
def zgc (zf:yB->Bool×Bool) (x:zdf) (y:Unit):=znq zf x.1 x.2.2.1 x.2.2.2.1
def znf (zf:yB->Bool×Bool) (n:Nat) (s:yA) (t7:Int) (t8:Int):=zy (zgc zf) (.inl default) n (s,(),t7,t8,()) ()
def zne:LL ty zdf:=za (lSl 51) (za (lFn 174 (zk)) (za zj (za zj zk)))
def zm1 (x:zdf) (y:Unit):Nat:=(x.1.length+Int.toNat x.2.2.1+Int.toNat x.2.2.2.1+1)
def zf8 (zf:yB->Bool×Bool):=zbV base 19 [(174,(ziu zf))] [] [(2,(kpL [0,1,7,8]))] [(2,1,[]),(2,0,(kpL [4]))] [(2,spW zne zbaJ (zgc zf) (.inl default) zsB zm1)] []
theorem zmQ (zf:yB->Bool×Bool):zC (zf8 zf) (lp (body f226) 0):=zn (id:=2) (hl:=rfl)
def znz (zf:yB->Bool×Bool) (s:yA):Wy0 (Int):=.bn (znf zf (s.length+(Int.ofNat s.length).toNat +Int.toNat 0+1) s (Int.ofNat s.length) 0) λr2=>.i (isL r2) (.k (getL r2)) (.k (-1:Int))
def zcO (zf:yB->Bool×Bool) (s:yA):=(znz zf s).fin default
theorem zmh (zf:yB->Bool×Bool) (zgo:SdP 174 (ziu zf)):SdP 226 (zcQ (zcO zf)):=
 sT (cx':=(zf8 zf)) (zi ⟨zgo,trivial⟩) call226 func226 (lOK (aC (zmQ zf) aN))
abbrev zdO:=yD×Unit×Int×Int×Unit
def zpD (zg:Wd->Bool×Bool) (s:yD) (t7:Int) (t8:Int):Wy zdO Unit (Int⊕Unit):=.i (decide (t8<t7)) (.ix t8 s.length (.bn (zg (s.getD t8.toNat default)) λr0=>.i (r0) (.k (.inl t8)) (.h (s,(),t7,(IntKind.i64.wrap (t8+1)),()) ()))) (.k (.inr ()))
def zhl (zg:Wd->Bool×Bool) (x:zdO) (y:Unit):=zpD zg x.1 x.2.2.1 x.2.2.2.1
def zpi (zg:Wd->Bool×Bool) (n:Nat) (s:yD) (t7:Int) (t8:Int):=zy (zhl zg) (.inl default) n (s,(),t7,t8,()) ()
def zpB:LL ty zdO:=za (lSl 169) (za (lFn 179 (zk)) (za zj (za zj zk)))
def zoS (x:zdO) (y:Unit):Nat:=(x.1.length+Int.toNat x.2.2.1+Int.toNat x.2.2.2.1+1)
def zhj (zg:Wd->Bool×Bool):=zbV base 19 [(179,(zdF zg))] [] [(2,(kpL [0,1,7,8]))] [(2,1,[]),(2,0,(kpL [4]))] [(2,spW zpB zbaJ (zhl zg) (.inl default) zsB zoS)] []
theorem zoT (zg:Wd->Bool×Bool):zC (zhj zg) (lp (body f228) 0):=zn (id:=2) (hl:=rfl)
def zqd (zg:Wd->Bool×Bool) (s:yD):Wy0 (Int):=.bn (zpi zg (s.length+(Int.ofNat s.length).toNat +Int.toNat 0+1) s (Int.ofNat s.length) 0) λr2=>.i (isL r2) (.k (getL r2)) (.k (-1:Int))
def zc9 (zg:Wd->Bool×Bool) (s:yD):=(zqd zg s).fin default
theorem zn3 (zg:Wd->Bool×Bool) (zgp:SdP 179 (zdF zg)):SdP 228 (zc8 (zc9 zg)):=
 sT (cx':=(zhj zg)) (zi ⟨zgp,trivial⟩) call228 func228 (lOK (aC (zoT zg) aN))
end Go.Proofs.YtoknknbmfmddbaaGreatDoor
end
