/- Texts of this claim, joined (the program, its functions in plain words, and what they compute). -/
import Derived.Test.YtoknknbmfmddbaaGreatDoorGC1
set_option autoImplicit false
set_option linter.unusedVariables false
set_option linter.unusedSectionVars false
set_option linter.unusedSimpArgs false
set_option maxRecDepth 1000000
set_option maxHeartbeats 0
noncomputable section
namespace Go.Proofs.YtoknknbmfmddbaaGreatDoor
open Go Go.Ab
open Go.Proofs.Tryz
abbrev zcm:=yG×yG×Unit×yG×Int×Int×Unit
abbrev zfM:=Int⊕(yG×yG)
def zjS (s1:yG) (s2:yG) (t11:yG) (t12:Int) (t13:Int):Wy zcm Unit zfM:=.i (decide (t13<t12)) (.i (decide (0<=t13)&&decide (t13<Int.ofNat t11.length)) (.i (decide (t13≥Int.ofNat s2.length)) (.k (.inl 1)) (.i (decide (0<=t13)&&decide (t13<Int.ofNat s2.length)) (.bn (zjw (t11.getD t13.toNat default) (s2.getD t13.toNat default)) λr0=>.i (r0 != 0) (.k (.inl (r0))) (.h (s1,s2,(),t11,t12,(IntKind.i64.wrap (t13+1)),()) ())) .d)) .d) (.k (.inr (s1,s2)))
def zeA (x:zcm) (y:Unit):=zjS x.1 x.2.1 x.2.2.2.1 x.2.2.2.2.1 x.2.2.2.2.2.1
def zjU (n:Nat) (s1:yG) (s2:yG) (t11:yG) (t12:Int) (t13:Int):=zx (zeA) (.inl default) n (s1,s2,(),t11,t12,t13,()) ()
def zjE (r:zfM):LTree ty:=.ite (isL r) (.done .ret [.lit (.int .i64 (getL r))] []) (.done (.exit 0) [.sl 79 (getR r).1,.sl 79 (getR r).2] [])
def zjK:LL ty zcm:=za (lSl 79) (za (lSl 79) (za (lFn 131 (zo)) (za (lSl 79) (za zi (za zi zo)))))
def zjC (x:zcm) (y:Unit):Nat:=(x.1.length+x.2.1.length+x.2.2.2.1.length+Int.toNat x.2.2.2.2.1+Int.toNat x.2.2.2.2.2.1+1)
def zey:=zcG base 39 [(131,zmy)] [] [(2,(kpL [0,1,2,11,12,13]))] [(2,1,(kpL [0,1])),(2,0,(kpL [6]))] [(2,spW zjK z2p (zeA) (.inl default) zjE zjC)] []
theorem zjB:zR zey (lp (body f130) 0):=zD (id:=2) (hl:=rfl)
def zj9 (s1:yG) (s2:yG):Wy0 (Int):=.bn (zjU (s1.length+s2.length+s1.length+(Int.ofNat s1.length).toNat +Int.toNat 0+1) s1 s2 s1 (Int.ofNat s1.length) 0) λr2=>.i (isL r2) (.k (getL r2)) (.i (decide (Int.ofNat (getR r2).1.length<Int.ofNat (getR r2).2.length)) (.k (-1:Int)) (.k 0))
def zb5 (s1:yG) (s2:yG):=(zj9 s1 s2).fin default
def zj7:AL base (yG×yG×Unit×Unit):=zf (zg (vSl 79)) (zf (zg (vSl 79)) (zf (zg (vFn 131 zc6)) zA))
def zeq:=zh zj7 λx=>((zb5 x.1 x.2.1).1,zMi (zb5 x.1 x.2.1).2)
theorem zjn:SdP 130 zeq:=
 sT (cx':=zey) (zk ⟨zq1,trivial⟩) call130 func130 (lOK (aC zjB aN))
def zP6:=zbM base 8 [(130,zeq),(131,zmy)]
def zCO (a:yG) (b:yG):Wy0 (Int):=.bn (zb5 a b) λr0=>.k r0
def zk1 (a:yG) (b:yG):=(zCO a b).fin default
def zRB:AL base (yG×yG×Unit):=zf (zg (vSl 79)) (zf (zg (vSl 79)) zA)
def zs6:=zh zRB λx=>((zk1 x.1 x.2.1).1,zMi (zk1 x.1 x.2.1).2)
theorem zyY:SdP 77 zs6:=
 sT (cx':=zP6) (zk ⟨zjn,zq1,trivial⟩) call77 func77 (lOK aN)
def zSq:=zbM base 10 [(77,zs6)]
def zER (x_:Row) (y_:Row):Wy0 (Int):=.bn (zk1 x_.Values y_.Values) λr0=>.k r0
def zcq (x_:Row) (y_:Row):=(zER x_ y_).fin default
def zSP:AL base (Row×Row×Unit):=zf (zg (zcT 54)) (zf (zg (zcT 54)) zA)
def zft:=zh zSP λx=>((zcq x.1 x.2.1).1,zMi (zcq x.1 x.2.1).2)
theorem zgE:SdP 53 zft:=
 sT (cx':=zSq) (zk ⟨zyY,trivial⟩) call53 func53 (lOK aN)
def zR9:=zbM base 16 [(53,zft),(115,znF)]
def zFg (x_:Row) (y_:Row):Wy0 (Bool):=.bn (zcq x_ y_) λr1=>.i (r1==0) (.bn (zf7 x_.Ann y_.Ann) λr0=>.k r0) (.k false)
def zp8 (x_:Row) (y_:Row):=(zFg x_ y_).fin default
def zt5:=zh zSP λx=>((zp8 x.1 x.2.1).1,zRy (zp8 x.1 x.2.1).2)
theorem zzI:SdP 60 zt5:=
 sT (cx':=zR9) (zk ⟨zgE,ztd,trivial⟩) call60 func60 (lOK aN)
abbrev zdp:=yF×Unit×yF×Int×Int×Unit
def zbY (s2:yF) (t15:yF) (t16:Int) (t17:Int):Wy zdp Unit (Bool⊕Unit):=.i (decide (t17<t16)) (.i (decide (0<=t17)&&decide (t17<Int.ofNat t15.length)) (.i (decide (0<=t17)&&decide (t17<Int.ofNat s2.length)) (.bn (zp8 (t15.getD t17.toNat default) (s2.getD t17.toNat default)) λr0=>.i (!r0) (.k (.inl false)) (.h (s2,(),t15,t16,(IntKind.i64.wrap (t17+1)),()) ())) .d) .d) (.k (.inr ()))
def zdR (x:zdp) (y:Unit):=zbY x.1 x.2.2.1 x.2.2.2.1 x.2.2.2.2.1
def zgh (n:Nat) (s2:yF) (t15:yF) (t16:Int) (t17:Int):=zx (zdR) (.inl default) n (s2,(),t15,t16,t17,()) ()
def zmM (r:Bool⊕Unit):LTree ty:=.ite (isL r) (.done .ret [.lit (.bool (getL r))] []) (.done (.exit 0) [] [])
def zm2:LL ty zdp:=za (lSl 54) (za (lFn 60 (zo)) (za (lSl 54) (za zi (za zi zo))))
def zmR (x:zdp) (y:Unit):Nat:=(x.1.length+x.2.2.1.length+Int.toNat x.2.2.2.1+Int.toNat x.2.2.2.2.1+1000)
def zgj:=zcG base 32 [(60,zt5)] [] [(4,(kpL [1,2,15,16,17]))] [(4,1,[]),(4,0,(kpL [6]))] [(4,spW zm2 z2p (zdR) (.inl default) zmM zmR)] []
theorem zmA:zR zgj (lp (body f59) 0):=zD (id:=4) (hl:=rfl)
def zgx (s1:yF) (s2:yF):Wy0 (Bool):=.i (Int.ofNat s1.length != Int.ofNat s2.length) (.k false) (.bn (zgh (s2.length+s1.length+(Int.ofNat s1.length).toNat +Int.toNat 0+1000) s2 s1 (Int.ofNat s1.length) 0) λr2=>.i (isL r2) (.k (getL r2)) (.k true))
def zb6 (s1:yF) (s2:yF):=(zgx s1 s2).fin default
def znU:AL base (yF×yF×Unit×Unit):=zf (zg (vSl 54)) (zf (zg (vSl 54)) (zf (zg (vFn 60 zc6)) zA))
def zfO:=zh znU λx=>((zb6 x.1 x.2.1).1,zRy (zb6 x.1 x.2.1).2)
theorem zl4:SdP 59 zfO:=
 sT (cx':=zgj) (zk ⟨zzI,trivial⟩) call59 func59 (lOK (aC zmA aN))
abbrev zfm:=yH×yH×Int×Int×Unit
def zdn (s1:yH) (s2:yH) (t12:Int) (t13:Int):Wy zfm Unit (Bool⊕Unit):=.i (decide (t13<t12)) (.i (decide (0<=t13)&&decide (t13<Int.ofNat s1.length)) (.i (decide (0<=t13)&&decide (t13<Int.ofNat s2.length)) (.i (!((s1.getD t13.toNat default).Name.toList==(s2.getD t13.toNat default).Name.toList&&((s1.getD t13.toNat default).Type_==(s2.getD t13.toNat default).Type_&&true))) (.k (.inl false)) (.h (s1,s2,t12,(IntKind.i64.wrap (t13+1)),()) ())) .d) .d) (.k (.inr ()))
def zg4 (x:zfm) (y:Unit):=zdn x.1 x.2.1 x.2.2.1 x.2.2.2.1
def zlP (n:Nat) (s1:yH) (s2:yH) (t12:Int) (t13:Int):=zx (zg4) (.inl default) n (s1,s2,t12,t13,()) ()
def zwY:LL ty zfm:=za (lSl 75) (za (lSl 75) (za zi (za zi zo)))
def zwc (x:zfm) (y:Unit):Nat:=(x.1.length+x.2.1.length+Int.toNat x.2.2.1+Int.toNat x.2.2.2.1+1000)
def zlF:=zcG base 26 [] [] [(4,(kpL [0,1,12,13]))] [(4,1,[]),(4,0,(kpL [4]))] [(4,spW zwY z2p (zg4) (.inl default) zmM zwc)] []
theorem zwi:zR zlF (lp (body f58) 0):=zD (id:=4) (hl:=rfl)
def zl7 (s1:yH) (s2:yH):Wy0 (Bool):=.i (Int.ofNat s1.length != Int.ofNat s2.length) (.k false) (.bn (zlP (s1.length+s2.length+(Int.ofNat s1.length).toNat +Int.toNat 0+1000) s1 s2 (Int.ofNat s1.length) 0) λr0=>.i (isL r0) (.k (getL r0)) (.k true))
def zd2 (s1:yH) (s2:yH):=(zl7 s1 s2).fin default
def zxu:AL base (yH×yH×Unit):=zf (zg (vSl 75)) (zf (zg (vSl 75)) zA)
def zkQ:=zh zxu λx=>((zd2 x.1 x.2.1).1,zRy (zd2 x.1 x.2.1).2)
theorem zur:SdP 58 zkQ:=
 sT (cx':=zlF) (zk trivial) call58 func58 (lOK (aC zwi aN))
def zVx:=zbM base 17 [(58,zkQ),(59,zfO),(60,zt5)]
def zJ0 (a:Relation) (b:Relation):Wy0 (Bool):=.bn (zd2 a.Columns b.Columns) λr1=>.i (r1) (.bn (zb6 a.Rows b.Rows) λr0=>.k r0) (.k false)
def zlZ (a:Relation) (b:Relation):=(zJ0 a b).fin default
def zXR:AL base (Relation×Relation×Unit):=zf (zg (zcT 25)) (zf (zg (zcT 25)) zA)
def zwZ:=zh zXR λx=>((zlZ x.1 x.2.1).1,zRy (zlZ x.1 x.2.1).2)
theorem zBB:SdP 16 zwZ:=
 sT (cx':=zVx) (zk ⟨zur,zl4,zzI,trivial⟩) call16 func16 (lOK aN)
def zUN:AL base (yB×Unit):=zf (zg (vSl 107)) zA
def zhP (F:yB->Bool×Bool):Ab.Spec ty:=zh zUN λx=>((F x.1).1,zRy (F x.1).2)
def zmq (F:At->Bool×Bool):Ab.Spec ty:=zh z3p λx=>((F x.1).1,zRy (F x.1).2)
def zHR:AL base (Wd×Unit):=zf (zg (zcT 169)) zA
def zdu (F:Wd->Bool×Bool):Ab.Spec ty:=zh zHR λx=>((F x.1).1,zRy (F x.1).2)
def zn2:AL base (yA×Unit×Unit):=zf (zg (vSl 51)) (zf (zg (vFn 174 zc6)) zA)
def zcB (F:yA->Bool×Int):Ab.Spec ty:=zh zn2 λx=>((F x.1).1,zMi (F x.1).2)
def zcl (F:yA->Bool×Bool):Ab.Spec ty:=zh zn2 λx=>((F x.1).1,zRy (F x.1).2)
def zp2:AL base (yD×Unit×Unit):=zf (zg (vSl 169)) (zf (zg (vFn 179 zc6)) zA)
def zcY (F:yD->Bool×Int):Ab.Spec ty:=zh zp2 λx=>((F x.1).1,zMi (F x.1).2)
def zcH (F:yD->Bool×Bool):Ab.Spec ty:=zh zp2 λx=>((F x.1).1,zRy (F x.1).2)
def zJy:=zbM base 11 []
def zyR (x_:At):Wy0 (Bool):=.i (x_.Kind==3) (.k true) (.k (x_.Kind==4))
def zfF (x_:At):=(zyR x_).fin default
def zjs:=zh z3p λx=>((zfF x.1).1,zRy (zfF x.1).2)
theorem zmx:SdP 105 zjs:=
 sT (cx':=zJy) (zk trivial) call105 func105 (lOK aN)
def zog (F:yB->Bool×Int):Ab.Spec ty:=zh zUN λx=>((F x.1).1,zMi (F x.1).2)
abbrev zsV:=Int×Unit×yB×Int×Int×yC×Int×Int×yA×Int×Int×Unit
abbrev zFb:=Int×yB×Int×Int×yC×Int×Int×Fc
abbrev zsa:=Int×yB×Int×Int×yC×Int×Int×yD×Int×Int×Unit
abbrev zE9:=Int×yB×Int×Int×yC×Int×Int
abbrev zsE:=Int×yB×Int×Int×yC×Int×Int×Unit
abbrev zFe:=Int×yB×Int×Int
abbrev zsN:=Int×yB×Int×Int×Unit
def zjR (zp:yB->Bool×Int) (n_:Int) (t12:yB) (t13:Int) (t14:Int) (t25:yC) (t26:Int) (t27:Int) (t33:yA) (t34:Int) (t35:Int) (f:Fc):Wy zsV (Fc×Unit) zFb:=.i (decide (t35<t34)) (.i (decide (0<=t35)&&decide (t35<Int.ofNat t33.length)) (.bn (zp (t33.getD t35.toNat default)) λr0=>.h ((IntKind.i64.wrap (n_+r0)),(),t12,t13,t14,t25,t26,t27,t33,t34,(IntKind.i64.wrap (t35+1)),()) (f,())) .d) (.k (n_,t12,t13,t14,t25,t26,t27,f))
def ztX (zp:yB->Bool×Int) (x:zsV) (y:Fc×Unit):=zjR zp x.1 x.2.2.1 x.2.2.2.1 x.2.2.2.2.1 x.2.2.2.2.2.1 x.2.2.2.2.2.2.1 x.2.2.2.2.2.2.2.1 x.2.2.2.2.2.2.2.2.1 x.2.2.2.2.2.2.2.2.2.1 x.2.2.2.2.2.2.2.2.2.2.1 y.1
def zAZ (zp:yB->Bool×Int) (n:Nat) (n_:Int) (t12:yB) (t13:Int) (t14:Int) (t25:yC) (t26:Int) (t27:Int) (t33:yA) (t34:Int) (t35:Int) (f:Fc):=zx (ztX zp) default n (n_,(),t12,t13,t14,t25,t26,t27,t33,t34,t35,()) (f,())
def zMv (r:zFb):LTree ty:=.done (.exit 4) [.lit (.int .i64 r.1),.ptr 248 0,.sl 107 r.2.1,.lit (.int .i64 r.2.2.1),.lit (.int .i64 r.2.2.2.1),.sl 145 r.2.2.2.2.1,.lit (.int .i64 r.2.2.2.2.2.1),.lit (.int .i64 r.2.2.2.2.2.2.1)] [.box (base.enc 145 r.2.2.2.2.2.2.2) false]
def zOq:LL ty zsV:=za zi (za (zdo 248 0) (za (lSl 107) (za zi (za zi (za (lSl 145) (za zi (za zi (za (lSl 51) (za zi (za zi zo))))))))))
def zNE:BL ty (Fc×Unit):=zeM (zfh (λx=>(⟨⟨x.1,⟨x.2.1,x.2.2.1⟩,x.2.2.2.1,x.2.2.2.2.1,x.2.2.2.2.2.1,x.2.2.2.2.2.2.1,⟨x.2.2.2.2.2.2.2.1,x.2.2.2.2.2.2.2.2.1,x.2.2.2.2.2.2.2.2.2.1⟩⟩,x.2.2.2.2.2.2.2.2.2.2.1⟩:Fc)) (λx=>(x.At.Kind,x.At.Row.Table,x.At.Row.Seq,x.At.Ag,x.At.Func,x.At.Items,x.At.Op,x.At.Bd.Kind,x.At.Bd.Int,x.At.Bd.Text,x.Exp,())) (λ_=>rfl) (za (zW .i64) (za (zW .i64) (za (zW .i64) (za (lSl 51) (za (zW .i64) (za (lSl 169) (za (zW .i64) (za (zW .i64) (za (zW .i64) (za zzj (za (zW .i64) zo)))))))))))) false (zbu)
def zjP (zp:yB->Bool×Int) (n_:Int) (t12:yB) (t13:Int) (t14:Int) (t25:yC) (t26:Int) (t27:Int) (t46:yD) (t47:Int) (t48:Int):Wy zsa Unit zE9:=.i (decide (t48<t47)) (.i (decide (0<=t48)&&decide (t48<Int.ofNat t46.length)) (.bn (zp (t46.getD t48.toNat default).Ann) λr2=>.h ((IntKind.i64.wrap (n_+IntKind.i64.wrap (1+r2))),t12,t13,t14,t25,t26,t27,t46,t47,(IntKind.i64.wrap (t48+1)),()) ()) .d) (.k (n_,t12,t13,t14,t25,t26,t27))
def zt1 (zp:yB->Bool×Int) (x:zsa) (y:Unit):=zjP zp x.1 x.2.1 x.2.2.1 x.2.2.2.1 x.2.2.2.2.1 x.2.2.2.2.2.1 x.2.2.2.2.2.2.1 x.2.2.2.2.2.2.2.1 x.2.2.2.2.2.2.2.2.1 x.2.2.2.2.2.2.2.2.2.1
def zAK (zp:yB->Bool×Int) (n:Nat) (n_:Int) (t12:yB) (t13:Int) (t14:Int) (t25:yC) (t26:Int) (t27:Int) (t46:yD) (t47:Int) (t48:Int):=zx (zt1 zp) default n (n_,t12,t13,t14,t25,t26,t27,t46,t47,t48,()) ()
def zMq (r:zE9):LTree ty:=.done (.exit 6) [.lit (.int .i64 r.1),.sl 107 r.2.1,.lit (.int .i64 r.2.2.1),.lit (.int .i64 r.2.2.2.1),.sl 145 r.2.2.2.2.1,.lit (.int .i64 r.2.2.2.2.2.1),.lit (.int .i64 r.2.2.2.2.2.2)] []
def zNt:LL ty zsa:=za zi (za (lSl 107) (za zi (za zi (za (lSl 145) (za zi (za zi (za (lSl 169) (za zi (za zi zo)))))))))
def zkq (zp:yB->Bool×Int) (n_:Int) (t12:yB) (t13:Int) (t14:Int) (t25:yC) (t26:Int) (t27:Int):Wy zsE Unit zFe:=.i (decide (t27<t26)) (.i (decide (0<=t27)&&decide (t27<Int.ofNat t25.length)) (.bn (zAZ zp (n_.toNat +t12.length+t13.toNat +t14.toNat +t25.length+t26.toNat +t27.toNat +(t25.getD t27.toNat default).At.Ag.length+(Int.ofNat (t25.getD t27.toNat default).At.Ag.length).toNat +Int.toNat 0+(t25.getD t27.toNat default).At.Ag.length+(t25.getD t27.toNat default).At.Items.length+1) n_ t12 t13 t14 t25 t26 t27 (t25.getD t27.toNat default).At.Ag (Int.ofNat (t25.getD t27.toNat default).At.Ag.length) 0 (FO.mk (At.mk (t25.getD t27.toNat default).At.Kind (t25.getD t27.toNat default).At.Row (t25.getD t27.toNat default).At.Ag (t25.getD t27.toNat default).At.Func (t25.getD t27.toNat default).At.Items (t25.getD t27.toNat default).At.Op (t25.getD t27.toNat default).At.Bd) (t25.getD t27.toNat default).Exp)) λr5=>.bn (zAK zp (r5.1.toNat +r5.2.1.length+r5.2.2.1.toNat +r5.2.2.2.1.toNat +r5.2.2.2.2.1.length+r5.2.2.2.2.2.1.toNat +r5.2.2.2.2.2.2.1.toNat +r5.2.2.2.2.2.2.2.At.Items.length+(Int.ofNat r5.2.2.2.2.2.2.2.At.Items.length).toNat +Int.toNat 0+1) r5.1 r5.2.1 r5.2.2.1 r5.2.2.2.1 r5.2.2.2.2.1 r5.2.2.2.2.2.1 r5.2.2.2.2.2.2.1 r5.2.2.2.2.2.2.2.At.Items (Int.ofNat r5.2.2.2.2.2.2.2.At.Items.length) 0) λr4=>.h ((r4.1),(r4.2.1),(r4.2.2.1),(r4.2.2.2.1),(r4.2.2.2.2.1),(r4.2.2.2.2.2.1),(IntKind.i64.wrap (r4.2.2.2.2.2.2+1)),()) ()) .d) (.k (n_,t12,t13,t14))
def zvf (zp:yB->Bool×Int) (x:zsE) (y:Unit):=zkq zp x.1 x.2.1 x.2.2.1 x.2.2.2.1 x.2.2.2.2.1 x.2.2.2.2.2.1 x.2.2.2.2.2.2.1
def zCg (zp:yB->Bool×Int) (n:Nat) (n_:Int) (t12:yB) (t13:Int) (t14:Int) (t25:yC) (t26:Int) (t27:Int):=zx (zvf zp) default n (n_,t12,t13,t14,t25,t26,t27,()) ()
def zOt (r:zFe):LTree ty:=.done (.exit 2) [.lit (.int .i64 r.1),.sl 107 r.2.1,.lit (.int .i64 r.2.2.1),.lit (.int .i64 r.2.2.2)] []
def zQD:LL ty zsE:=za zi (za (lSl 107) (za zi (za zi (za (lSl 145) (za zi (za zi zo))))))
def zkC (zp:yB->Bool×Int) (n_:Int) (t12:yB) (t13:Int) (t14:Int):Wy zsN Unit (Int):=.i (decide (t14<t13)) (.i (decide (0<=t14)&&decide (t14<Int.ofNat t12.length)) (.bn (zCg zp ((IntKind.i64.wrap (n_+IntKind.i64.wrap (1+Int.ofNat (t12.getD t14.toNat default).Fs.length))).toNat +t12.length+t13.toNat +t14.toNat +(t12.getD t14.toNat default).Fs.length+(Int.ofNat (t12.getD t14.toNat default).Fs.length).toNat +Int.toNat 0+1) (IntKind.i64.wrap (n_+IntKind.i64.wrap (1+Int.ofNat (t12.getD t14.toNat default).Fs.length))) t12 t13 t14 (t12.getD t14.toNat default).Fs (Int.ofNat (t12.getD t14.toNat default).Fs.length) 0) λr8=>.h ((r8.1),(r8.2.1),(r8.2.2.1),(IntKind.i64.wrap (r8.2.2.2+1)),()) ()) .d) (.k n_)
def zvd (zp:yB->Bool×Int) (x:zsN) (y:Unit):=zkC zp x.1 x.2.1 x.2.2.1 x.2.2.2.1
def zCn (zp:yB->Bool×Int) (n:Nat) (n_:Int) (t12:yB) (t13:Int) (t14:Int):=zx (zvd zp) default n (n_,t12,t13,t14,()) ()
def zNs (r:Int):LTree ty:=.done (.exit 0) [.lit (.int .i64 r)] []
def zPd:LL ty zsN:=za zi (za (lSl 107) (za zi (za zi zo)))
def zMW (x:zsV) (y:Fc×Unit):Nat:=(Int.toNat x.1+x.2.2.1.length+Int.toNat x.2.2.2.1+Int.toNat x.2.2.2.2.1+x.2.2.2.2.2.1.length+Int.toNat x.2.2.2.2.2.2.1+Int.toNat x.2.2.2.2.2.2.2.1+x.2.2.2.2.2.2.2.2.1.length+Int.toNat x.2.2.2.2.2.2.2.2.2.1+Int.toNat x.2.2.2.2.2.2.2.2.2.2.1+y.1.At.Ag.length+y.1.At.Items.length+1)
def zMZ (x:zsa) (y:Unit):Nat:=(Int.toNat x.1+x.2.1.length+Int.toNat x.2.2.1+Int.toNat x.2.2.2.1+x.2.2.2.2.1.length+Int.toNat x.2.2.2.2.2.1+Int.toNat x.2.2.2.2.2.2.1+x.2.2.2.2.2.2.2.1.length+Int.toNat x.2.2.2.2.2.2.2.2.1+Int.toNat x.2.2.2.2.2.2.2.2.2.1+1)
def zN3 (x:zsE) (y:Unit):Nat:=(Int.toNat x.1+x.2.1.length+Int.toNat x.2.2.1+Int.toNat x.2.2.2.1+x.2.2.2.2.1.length+Int.toNat x.2.2.2.2.2.1+Int.toNat x.2.2.2.2.2.2.1+1)
def zNz (x:zsN) (y:Unit):Nat:=(Int.toNat x.1+x.2.1.length+Int.toNat x.2.2.1+Int.toNat x.2.2.2.1+1)
def zkt (zp:yB->Bool×Int):=zcG base 62 [(160,(zog zp))] [] [(3,(kpL [3,12,13,14])),(7,(kpL [3,12,13,14,25,26,27])),(10,(kpL [3,7,12,13,14,25,26,27,33,34,35])),(15,(kpL [3,12,13,14,25,26,27,46,47,48]))] [(3,1,(kpL [3])),(7,3,(kpL [3,12,13,14])),(10,5,(kpL [3,7,12,13,14,25,26,27])),(15,7,(kpL [3,12,13,14,25,26,27]))] [(10,spW zOq zNE (ztX zp) default zMv zMW),(15,spW zNt z2p (zt1 zp) default zMq zMZ),(7,spW zQD z2p (zvf zp) default zOt zN3),(3,spW zPd z2p (zvd zp) default zNs zNz)] []
theorem zL6 (zp:yB->Bool×Int):zR (zkt zp) (lp (body f160) 2):=zD (id:=10) (hl:=rfl)
theorem zMJ (zp:yB->Bool×Int):zR (zkt zp) (lp (body f160) 3):=zD (id:=15) (hl:=rfl)
theorem zOM (zp:yB->Bool×Int):zR (zkt zp) (lp (body f160) 1):=zD (id:=7) (hl:=rfl)
theorem zM7 (zp:yB->Bool×Int):zR (zkt zp) (lp (body f160) 0):=zD (id:=3) (hl:=rfl)
def zC4 (zp:yB->Bool×Int) (a:yB):Wy0 (Int):=.bn (zCn zp (Int.toNat 0+a.length+(Int.ofNat a.length).toNat +Int.toNat 0+1) 0 a (Int.ofNat a.length) 0) λr10=>.k r10
def ztw (zp:yB->Bool×Int) (a:yB):=(zC4 zp a).fin default
theorem zKm (zp:yB->Bool×Int) (zRZ:SdP 160 (zog zp)):SdP 160 (zog (ztw zp)):=
 sT (cx':=(zkt zp)) (zk ⟨zRZ,trivial⟩) call160 func160 (lOK (aC (zM7 zp) (aC (zOM zp) (aC (zL6 zp) (aC (zMJ zp) aN)))))
def z3v:Nat->(yB->Bool×Int)
 | 0=>λ_=>(false,default)
 | n+1=>ztw (z3v n)
def zk0 (n:Nat):yB->Bool×Int:=z3v n
theorem zPS (n:Nat):zk0 (n+1)=ztw (zk0 n):=rfl
theorem zY8:∀ n,SdP 160 (zog (zk0 n))
 | 0=>zbs call160 (λ_=>rfl)
 | n+1=>by
  have ih:=zY8 n;exact zKm _ (ih)
def zB4:yB->Bool×Int:=zk0 1000
def zCA:Ab.Spec ty:=zog zB4
theorem zNO:SdP 160 zCA:=(zY8 1000)
abbrev znk:=Int×Unit×Int×yB×Int×Int×yC×Int×Int×yA×Int×Int×Unit
abbrev zAy:=Int×Int×yB×Int×Int×yC×Int×Int×Fc
abbrev zne:=Int×Int×yB×Int×Int×yC×Int×Int×yD×Int×Int×Unit
abbrev zAw:=Int×Int×yB×Int×Int×yC×Int×Int
abbrev znq:=Int×yB×Int×Int×yC×Int×Int×Unit
abbrev zAP:=Int×yB×Int×Int
abbrev zns:=Int×yB×Int×Int×Unit
def zh7 (zj:yB->Bool×Int) (n_:Int) (inner:Int) (t13:yB) (t14:Int) (t15:Int) (t20:yC) (t21:Int) (t22:Int) (t32:yA) (t33:Int) (t34:Int) (f:Fc):Wy znk (Fc×Unit) zAy:=.i (decide (t34<t33)) (.i (decide (0<=t34)&&decide (t34<Int.ofNat t32.length)) (.bn (zj (t32.getD t34.toNat default)) λr0=>.h (n_,(),(if r0>inner then r0 else inner),t13,t14,t15,t20,t21,t22,t32,t33,(IntKind.i64.wrap (t34+1)),()) (f,())) .d) (.k (n_,inner,t13,t14,t15,t20,t21,t22,f))
def zp1 (zj:yB->Bool×Int) (x:znk) (y:Fc×Unit):=zh7 zj x.1 x.2.2.1 x.2.2.2.1 x.2.2.2.2.1 x.2.2.2.2.2.1 x.2.2.2.2.2.2.1 x.2.2.2.2.2.2.2.1 x.2.2.2.2.2.2.2.2.1 x.2.2.2.2.2.2.2.2.2.1 x.2.2.2.2.2.2.2.2.2.2.1 x.2.2.2.2.2.2.2.2.2.2.2.1 y.1
def zxS (zj:yB->Bool×Int) (n:Nat) (n_:Int) (inner:Int) (t13:yB) (t14:Int) (t15:Int) (t20:yC) (t21:Int) (t22:Int) (t32:yA) (t33:Int) (t34:Int) (f:Fc):=zx (zp1 zj) default n (n_,(),inner,t13,t14,t15,t20,t21,t22,t32,t33,t34,()) (f,())
def zHT (r:zAy):LTree ty:=.done (.exit 4) [.lit (.int .i64 r.1),.ptr 256 0,.lit (.int .i64 r.2.1),.sl 107 r.2.2.1,.lit (.int .i64 r.2.2.2.1),.lit (.int .i64 r.2.2.2.2.1),.sl 145 r.2.2.2.2.2.1,.lit (.int .i64 r.2.2.2.2.2.2.1),.lit (.int .i64 r.2.2.2.2.2.2.2.1)] [.box (base.enc 145 r.2.2.2.2.2.2.2.2) false]
def zJb:LL ty znk:=za zi (za (zdo 256 0) (za zi (za (lSl 107) (za zi (za zi (za (lSl 145) (za zi (za zi (za (lSl 51) (za zi (za zi zo)))))))))))
def zh6 (zj:yB->Bool×Int) (n_:Int) (inner:Int) (t13:yB) (t14:Int) (t15:Int) (t20:yC) (t21:Int) (t22:Int) (t45:yD) (t46:Int) (t47:Int):Wy zne Unit zAw:=.i (decide (t47<t46)) (.i (decide (0<=t47)&&decide (t47<Int.ofNat t45.length)) (.bn (zj (t45.getD t47.toNat default).Ann) λr2=>.h (n_,(if r2>inner then r2 else inner),t13,t14,t15,t20,t21,t22,t45,t46,(IntKind.i64.wrap (t47+1)),()) ()) .d) (.k (n_,inner,t13,t14,t15,t20,t21,t22))
def zqR (zj:yB->Bool×Int) (x:zne) (y:Unit):=zh6 zj x.1 x.2.1 x.2.2.1 x.2.2.2.1 x.2.2.2.2.1 x.2.2.2.2.2.1 x.2.2.2.2.2.2.1 x.2.2.2.2.2.2.2.1 x.2.2.2.2.2.2.2.2.1 x.2.2.2.2.2.2.2.2.2.1 x.2.2.2.2.2.2.2.2.2.2.1
def zxL (zj:yB->Bool×Int) (n:Nat) (n_:Int) (inner:Int) (t13:yB) (t14:Int) (t15:Int) (t20:yC) (t21:Int) (t22:Int) (t45:yD) (t46:Int) (t47:Int):=zx (zqR zj) default n (n_,inner,t13,t14,t15,t20,t21,t22,t45,t46,t47,()) ()
def zHj (r:zAw):LTree ty:=.done (.exit 6) [.lit (.int .i64 r.1),.lit (.int .i64 r.2.1),.sl 107 r.2.2.1,.lit (.int .i64 r.2.2.2.1),.lit (.int .i64 r.2.2.2.2.1),.sl 145 r.2.2.2.2.2.1,.lit (.int .i64 r.2.2.2.2.2.2.1),.lit (.int .i64 r.2.2.2.2.2.2.2)] []
def zJ2:LL ty zne:=za zi (za zi (za (lSl 107) (za zi (za zi (za (lSl 145) (za zi (za zi (za (lSl 169) (za zi (za zi zo))))))))))
def ziH (zj:yB->Bool×Int) (n_:Int) (t13:yB) (t14:Int) (t15:Int) (t20:yC) (t21:Int) (t22:Int):Wy znq Unit zAP:=.i (decide (t22<t21)) (.i (decide (0<=t22)&&decide (t22<Int.ofNat t20.length)) (.i ((t20.getD t22.toNat default).At.Kind==0) (.h (n_,t13,t14,t15,t20,t21,(IntKind.i64.wrap (t22+1)),()) ()) (.bn (zxS zj (n_.toNat +Int.toNat 0+t13.length+t14.toNat +t15.toNat +t20.length+t21.toNat +t22.toNat +(t20.getD t22.toNat default).At.Ag.length+(Int.ofNat (t20.getD t22.toNat default).At.Ag.length).toNat +Int.toNat 0+(t20.getD t22.toNat default).At.Ag.length+(t20.getD t22.toNat default).At.Items.length+1) n_ 0 t13 t14 t15 t20 t21 t22 (t20.getD t22.toNat default).At.Ag (Int.ofNat (t20.getD t22.toNat default).At.Ag.length) 0 (FO.mk (At.mk (t20.getD t22.toNat default).At.Kind (t20.getD t22.toNat default).At.Row (t20.getD t22.toNat default).At.Ag (t20.getD t22.toNat default).At.Func (t20.getD t22.toNat default).At.Items (t20.getD t22.toNat default).At.Op (t20.getD t22.toNat default).At.Bd) (t20.getD t22.toNat default).Exp)) λr5=>.bn (zxL zj (r5.1.toNat +r5.2.1.toNat +r5.2.2.1.length+r5.2.2.2.1.toNat +r5.2.2.2.2.1.toNat +r5.2.2.2.2.2.1.length+r5.2.2.2.2.2.2.1.toNat +r5.2.2.2.2.2.2.2.1.toNat +r5.2.2.2.2.2.2.2.2.At.Items.length+(Int.ofNat r5.2.2.2.2.2.2.2.2.At.Items.length).toNat +Int.toNat 0+1) r5.1 r5.2.1 r5.2.2.1 r5.2.2.2.1 r5.2.2.2.2.1 r5.2.2.2.2.2.1 r5.2.2.2.2.2.2.1 r5.2.2.2.2.2.2.2.1 r5.2.2.2.2.2.2.2.2.At.Items (Int.ofNat r5.2.2.2.2.2.2.2.2.At.Items.length) 0) λr4=>.h ((if IntKind.i64.wrap (1+r4.2.1)>r4.1 then IntKind.i64.wrap (1+r4.2.1) else r4.1),(r4.2.2.1),(r4.2.2.2.1),(r4.2.2.2.2.1),(r4.2.2.2.2.2.1),(r4.2.2.2.2.2.2.1),(IntKind.i64.wrap (r4.2.2.2.2.2.2.2+1)),()) ())) .d) (.k (n_,t13,t14,t15))
def zrw (zj:yB->Bool×Int) (x:znq) (y:Unit):=ziH zj x.1 x.2.1 x.2.2.1 x.2.2.2.1 x.2.2.2.2.1 x.2.2.2.2.2.1 x.2.2.2.2.2.2.1
def zyQ (zj:yB->Bool×Int) (n:Nat) (n_:Int) (t13:yB) (t14:Int) (t15:Int) (t20:yC) (t21:Int) (t22:Int):=zx (zrw zj) default n (n_,t13,t14,t15,t20,t21,t22,()) ()
def zIG (r:zAP):LTree ty:=.done (.exit 2) [.lit (.int .i64 r.1),.sl 107 r.2.1,.lit (.int .i64 r.2.2.1),.lit (.int .i64 r.2.2.2)] []
def zKY:LL ty znq:=za zi (za (lSl 107) (za zi (za zi (za (lSl 145) (za zi (za zi zo))))))
def ziP (zj:yB->Bool×Int) (n_:Int) (t13:yB) (t14:Int) (t15:Int):Wy zns Unit (Int):=.i (decide (t15<t14)) (.i (decide (0<=t15)&&decide (t15<Int.ofNat t13.length)) (.bn (zyQ zj (n_.toNat +t13.length+t14.toNat +t15.toNat +(t13.getD t15.toNat default).Fs.length+(Int.ofNat (t13.getD t15.toNat default).Fs.length).toNat +Int.toNat 0+1) n_ t13 t14 t15 (t13.getD t15.toNat default).Fs (Int.ofNat (t13.getD t15.toNat default).Fs.length) 0) λr8=>.h ((r8.1),(r8.2.1),(r8.2.2.1),(IntKind.i64.wrap (r8.2.2.2+1)),()) ()) .d) (.k n_)
def zrE (zj:yB->Bool×Int) (x:zns) (y:Unit):=ziP zj x.1 x.2.1 x.2.2.1 x.2.2.2.1
def zyV (zj:yB->Bool×Int) (n:Nat) (n_:Int) (t13:yB) (t14:Int) (t15:Int):=zx (zrE zj) default n (n_,t13,t14,t15,()) ()
def zKy:LL ty zns:=za zi (za (lSl 107) (za zi (za zi zo)))
def zHg (x:znk) (y:Fc×Unit):Nat:=(Int.toNat x.1+Int.toNat x.2.2.1+x.2.2.2.1.length+Int.toNat x.2.2.2.2.1+Int.toNat x.2.2.2.2.2.1+x.2.2.2.2.2.2.1.length+Int.toNat x.2.2.2.2.2.2.2.1+Int.toNat x.2.2.2.2.2.2.2.2.1+x.2.2.2.2.2.2.2.2.2.1.length+Int.toNat x.2.2.2.2.2.2.2.2.2.2.1+Int.toNat x.2.2.2.2.2.2.2.2.2.2.2.1+y.1.At.Ag.length+y.1.At.Items.length+1)
def zHk (x:zne) (y:Unit):Nat:=(Int.toNat x.1+Int.toNat x.2.1+x.2.2.1.length+Int.toNat x.2.2.2.1+Int.toNat x.2.2.2.2.1+x.2.2.2.2.2.1.length+Int.toNat x.2.2.2.2.2.2.1+Int.toNat x.2.2.2.2.2.2.2.1+x.2.2.2.2.2.2.2.2.1.length+Int.toNat x.2.2.2.2.2.2.2.2.2.1+Int.toNat x.2.2.2.2.2.2.2.2.2.2.1+1)
def zIT (x:znq) (y:Unit):Nat:=(Int.toNat x.1+x.2.1.length+Int.toNat x.2.2.1+Int.toNat x.2.2.2.1+x.2.2.2.2.1.length+Int.toNat x.2.2.2.2.2.1+Int.toNat x.2.2.2.2.2.2.1+1)
def zIH (x:zns) (y:Unit):Nat:=(Int.toNat x.1+x.2.1.length+Int.toNat x.2.2.1+Int.toNat x.2.2.2.1+1)
def ziD (zj:yB->Bool×Int):=zcG base 64 [(159,(zog zj))] [] [(3,(kpL [3,13,14,15])),(6,(kpL [3,13,14,15,20,21,22])),(11,(kpL [3,7,8,13,14,15,20,21,22,32,33,34])),(16,(kpL [3,8,13,14,15,20,21,22,45,46,47]))] [(3,1,(kpL [3])),(6,3,(kpL [3,13,14,15])),(11,5,(kpL [3,7,8,13,14,15,20,21,22])),(16,7,(kpL [3,8,13,14,15,20,21,22]))] [(11,spW zJb zNE (zp1 zj) default zHT zHg),(16,spW zJ2 z2p (zqR zj) default zHj zHk),(6,spW zKY z2p (zrw zj) default zIG zIT),(3,spW zKy z2p (zrE zj) default zNs zIH)] []
theorem zHh (zj:yB->Bool×Int):zR (ziD zj) (lp (body f159) 2):=zD (id:=11) (hl:=rfl)
theorem zHN (zj:yB->Bool×Int):zR (ziD zj) (lp (body f159) 3):=zD (id:=16) (hl:=rfl)
theorem zKb (zj:yB->Bool×Int):zR (ziD zj) (lp (body f159) 1):=zD (id:=6) (hl:=rfl)
theorem zIa (zj:yB->Bool×Int):zR (ziD zj) (lp (body f159) 0):=zD (id:=3) (hl:=rfl)
def zzq (zj:yB->Bool×Int) (a:yB):Wy0 (Int):=.bn (zyV zj (Int.toNat 0+a.length+(Int.ofNat a.length).toNat +Int.toNat 0+1) 0 a (Int.ofNat a.length) 0) λr10=>.k r10
def zpq (zj:yB->Bool×Int) (a:yB):=(zzq zj a).fin default
theorem zGx (zj:yB->Bool×Int) (zMA:SdP 159 (zog zj)):SdP 159 (zog (zpq zj)):=
 sT (cx':=(ziD zj)) (zk ⟨zMA,trivial⟩) call159 func159 (lOK (aC (zIa zj) (aC (zKb zj) (aC (zHh zj) (aC (zHN zj) aN)))))
def zWr:Nat->(yB->Bool×Int)
 | 0=>λ_=>(false,default)
 | n+1=>zpq (zWr n)
def zgg (n:Nat):yB->Bool×Int:=zWr n
theorem zKl (n:Nat):zgg (n+1)=zpq (zgg n):=rfl
theorem zQO:∀ n,SdP 159 (zog (zgg n))
 | 0=>zbs call159 (λ_=>rfl)
 | n+1=>by
  have ih:=zQO n;exact zGx _ (ih)
def zx9:yB->Bool×Int:=zgg 1000
def zyN:Ab.Spec ty:=zog zx9
theorem zJW:SdP 159 zyN:=(zQO 1000)
def zGc:=zbM base 13 []
def zxc (f:Fc):Wy0 (Bool):=.i (decide (f.Exp>64)) (.k true) (.k (decide (Int.ofNat f.At.Items.length>1024)))
def zf1 (f:Fc):=(zxc f).fin default
def zG6:AL base (Fc×Unit):=zf (zg (zcT 145)) zA
def ziw:=zh zG6 λx=>((zf1 x.1).1,zRy (zf1 x.1).2)
theorem zlj:SdP 164 ziw:=
 sT (cx':=zGc) (zk trivial) call164 func164 (lOK aN)
abbrev zeg:=yC×Unit×Int×Int×Unit
def zi5 (s:yC) (t7:Int) (t8:Int):Wy zeg Unit (Int⊕Unit):=.i (decide (t8<t7)) (.i (decide (0<=t8)&&decide (t8<Int.ofNat s.length)) (.bn (zf1 (FO.mk (At.mk (s.getD t8.toNat default).At.Kind (s.getD t8.toNat default).At.Row (s.getD t8.toNat default).At.Ag (s.getD t8.toNat default).At.Func (s.getD t8.toNat default).At.Items (s.getD t8.toNat default).At.Op (s.getD t8.toNat default).At.Bd) (s.getD t8.toNat default).Exp)) λr0=>.i (r0) (.k (.inl t8)) (.h (s,(),t7,(IntKind.i64.wrap (t8+1)),()) ())) .d) (.k (.inr ()))
def zdq (x:zeg) (y:Unit):=zi5 x.1 x.2.2.1 x.2.2.2.1
def zi3 (n:Nat) (s:yC) (t7:Int) (t8:Int):=zx (zdq) (.inl default) n (s,(),t7,t8,()) ()
def zrz (r:Int⊕Unit):LTree ty:=.ite (isL r) (.done .ret [.lit (.int .i64 (getL r))] []) (.done (.exit 0) [] [])
def zsK:LL ty zeg:=za (lSl 145) (za (lFn 164 (zo)) (za zi (za zi zo)))
def zrv (x:zeg) (y:Unit):Nat:=(x.1.length+Int.toNat x.2.2.1+Int.toNat x.2.2.2.1+1)
def ziY:=zcG base 19 [(164,ziw)] [] [(2,(kpL [0,1,7,8]))] [(2,1,[]),(2,0,(kpL [4]))] [(2,spW zsK z2p (zdq) (.inl default) zrz zrv)] []
theorem zrU:zR ziY (lp (body f222) 0):=zD (id:=2) (hl:=rfl)
def zjl (s:yC):Wy0 (Int):=.bn (zi3 (s.length+(Int.ofNat s.length).toNat +Int.toNat 0+1) s (Int.ofNat s.length) 0) λr2=>.i (isL r2) (.k (getL r2)) (.k (-1:Int))
def zcM (s:yC):=(zjl s).fin default
def ztg:AL base (yC×Unit×Unit):=zf (zg (vSl 145)) (zf (zg (vFn 164 zc6)) zA)
def zil:=zh ztg λx=>((zcM x.1).1,zMi (zcM x.1).2)
theorem zqM:SdP 222 zil:=
 sT (cx':=ziY) (zk ⟨zlj,trivial⟩) call222 func222 (lOK (aC zrU aN))
def zqG:=zbM base 9 [(164,ziw),(222,zil)]
def zih (s:yC):Wy0 (Bool):=.bn (zcM s) λr0=>.k (decide (r0≥0))
def zcs (s:yC):=(zih s).fin default
def zhi:=zh ztg λx=>((zcs x.1).1,zRy (zcs x.1).2)
theorem zoc:SdP 163 zhi:=
 sT (cx':=zqG) (zk ⟨zlj,zqM,trivial⟩) call163 func163 (lOK aN)
def zKN:=zbM base 12 [(163,zhi),(164,ziw)]
def zzJ (t:Term):Wy0 (Bool):=.i (decide (Int.ofNat t.Fs.length>64)) (.k true) (.bn (zcs t.Fs) λr0=>.k r0)
def zkm (t:Term):=(zzJ t).fin default
def zMT:AL base (Term×Unit):=zf (zg (zcT 107)) zA
def zjW:=zh zMT λx=>((zkm x.1).1,zRy (zkm x.1).2)
theorem znG:SdP 162 zjW:=
 sT (cx':=zKN) (zk ⟨zoc,zlj,trivial⟩) call162 func162 (lOK aN)
abbrev zea:=yB×Unit×Int×Int×Unit
def zrP (s:yB) (t7:Int) (t8:Int):Wy zea Unit (Int⊕Unit):=.i (decide (t8<t7)) (.i (decide (0<=t8)&&decide (t8<Int.ofNat s.length)) (.bn (zkm (s.getD t8.toNat default)) λr0=>.i (r0) (.k (.inl t8)) (.h (s,(),t7,(IntKind.i64.wrap (t8+1)),()) ())) .d) (.k (.inr ()))
def ziN (x:zea) (y:Unit):=zrP x.1 x.2.2.1 x.2.2.2.1
def zrB (n:Nat) (s:yB) (t7:Int) (t8:Int):=zx (ziN) (.inl default) n (s,(),t7,t8,()) ()
def zrZ:LL ty zea:=za (lSl 107) (za (lFn 162 (zo)) (za zi (za zi zo)))
def zrl (x:zea) (y:Unit):Nat:=(x.1.length+Int.toNat x.2.2.1+Int.toNat x.2.2.2.1+1)
def ziG:=zcG base 19 [(162,zjW)] [] [(2,(kpL [0,1,7,8]))] [(2,1,[]),(2,0,(kpL [4]))] [(2,spW zrZ z2p (ziN) (.inl default) zrz zrl)] []
theorem zq4:zR ziG (lp (body f221) 0):=zD (id:=2) (hl:=rfl)
def zsm (s:yB):Wy0 (Int):=.bn (zrB (s.length+(Int.ofNat s.length).toNat +Int.toNat 0+1) s (Int.ofNat s.length) 0) λr2=>.i (isL r2) (.k (getL r2)) (.k (-1:Int))
def zdN (s:yB):=(zsm s).fin default
def zst:AL base (yB×Unit×Unit):=zf (zg (vSl 107)) (zf (zg (vFn 162 zc6)) zA)
def zhS:=zh zst λx=>((zdN x.1).1,zMi (zdN x.1).2)
theorem zpR:SdP 221 zhS:=
 sT (cx':=ziG) (zk ⟨znG,trivial⟩) call221 func221 (lOK (aC zq4 aN))
def zpF:=zbM base 9 [(162,zjW),(221,zhS)]
def zhO (s:yB):Wy0 (Bool):=.bn (zdN s) λr0=>.k (decide (r0≥0))
def zci (s:yB):=(zhO s).fin default
def zgS:=zh zst λx=>((zci x.1).1,zRy (zci x.1).2)
theorem znM:SdP 161 zgS:=
 sT (cx':=zpF) (zk ⟨znG,zpR,trivial⟩) call161 func161 (lOK aN)
def zQB:=zbM base 19 [(159,zyN),(160,zCA),(161,zgS),(162,zjW)]
def zCU (a:yB):Wy0 (Bool):=.i (decide (Int.ofNat a.length>512)) (.k false) (.bn (zx9 a) λr2=>.i (decide (r2>8)) (.k false) (.bn (zB4 a) λr1=>.i (decide (r1>4096)) (.k false) (.bn (zci a) λr0=>.k (!r0))))
def zk2 (a:yB):=(zCU a).fin default
def ztj:=zh zUN λx=>((zk2 x.1).1,zRy (zk2 x.1).2)
theorem zyW:SdP 103 ztj:=
 sT (cx':=zQB) (zk ⟨zJW,zNO,znM,znG,trivial⟩) call103 func103 (lOK aN)
abbrev zq0:=yB×Unit×yB×Int×Int×yC×Int×Int×Unit
abbrev zCX:=Bool⊕(yB×yB×Int×Int)
abbrev zqY:=yB×yB×Int×Int×Unit
def zjL (zB:At->Bool×Bool) (a:yB) (t10:yB) (t11:Int) (t12:Int) (t40:yC) (t41:Int) (t42:Int) (t:Term):Wy zq0 (Term×Unit) zCX:=.i (decide (t42<t41)) (.i (decide (0<=t42)&&decide (t42<Int.ofNat t40.length)) (.i (decide ((t40.getD t42.toNat default).Exp<1)) (.k (.inl false)) (.bn (zfF (At.mk (t40.getD t42.toNat default).At.Kind (t40.getD t42.toNat default).At.Row (t40.getD t42.toNat default).At.Ag (t40.getD t42.toNat default).At.Func (t40.getD t42.toNat default).At.Items (t40.getD t42.toNat default).At.Op (t40.getD t42.toNat default).At.Bd)) λr6=>.i (r6) (.i ((t40.getD t42.toNat default).Exp != 1) (.k (.inl false)) (.i (decide (t42>0)) (.i (decide (0<=IntKind.i64.wrap (t42 - 1))&&decide (IntKind.i64.wrap (t42 - 1)<Int.ofNat t.Fs.length)) (.bn (ziE (At.mk (t.Fs.getD (IntKind.i64.wrap (t42 - 1)).toNat default).At.Kind (t.Fs.getD (IntKind.i64.wrap (t42 - 1)).toNat default).At.Row (t.Fs.getD (IntKind.i64.wrap (t42 - 1)).toNat default).At.Ag (t.Fs.getD (IntKind.i64.wrap (t42 - 1)).toNat default).At.Func (t.Fs.getD (IntKind.i64.wrap (t42 - 1)).toNat default).At.Items (t.Fs.getD (IntKind.i64.wrap (t42 - 1)).toNat default).At.Op (t.Fs.getD (IntKind.i64.wrap (t42 - 1)).toNat default).At.Bd) (At.mk (t40.getD t42.toNat default).At.Kind (t40.getD t42.toNat default).At.Row (t40.getD t42.toNat default).At.Ag (t40.getD t42.toNat default).At.Func (t40.getD t42.toNat default).At.Items (t40.getD t42.toNat default).At.Op (t40.getD t42.toNat default).At.Bd)) λr1=>.i (decide (r1≥0)) (.k (.inl false)) (.bn (zB (At.mk (t40.getD t42.toNat default).At.Kind (t40.getD t42.toNat default).At.Row (t40.getD t42.toNat default).At.Ag (t40.getD t42.toNat default).At.Func (t40.getD t42.toNat default).At.Items (t40.getD t42.toNat default).At.Op (t40.getD t42.toNat default).At.Bd)) λr0=>.i (!r0) (.k (.inl false)) (.h (a,(),t10,t11,t12,t40,t41,(IntKind.i64.wrap (t42+1)),()) (t,())))) .d) (.bn (zB (At.mk (t40.getD t42.toNat default).At.Kind (t40.getD t42.toNat default).At.Row (t40.getD t42.toNat default).At.Ag (t40.getD t42.toNat default).At.Func (t40.getD t42.toNat default).At.Items (t40.getD t42.toNat default).At.Op (t40.getD t42.toNat default).At.Bd)) λr2=>.i (!r2) (.k (.inl false)) (.h (a,(),t10,t11,t12,t40,t41,(IntKind.i64.wrap (t42+1)),()) (t,()))))) (.i (decide (t42>0)) (.i (decide (0<=IntKind.i64.wrap (t42 - 1))&&decide (IntKind.i64.wrap (t42 - 1)<Int.ofNat t.Fs.length)) (.bn (ziE (At.mk (t.Fs.getD (IntKind.i64.wrap (t42 - 1)).toNat default).At.Kind (t.Fs.getD (IntKind.i64.wrap (t42 - 1)).toNat default).At.Row (t.Fs.getD (IntKind.i64.wrap (t42 - 1)).toNat default).At.Ag (t.Fs.getD (IntKind.i64.wrap (t42 - 1)).toNat default).At.Func (t.Fs.getD (IntKind.i64.wrap (t42 - 1)).toNat default).At.Items (t.Fs.getD (IntKind.i64.wrap (t42 - 1)).toNat default).At.Op (t.Fs.getD (IntKind.i64.wrap (t42 - 1)).toNat default).At.Bd) (At.mk (t40.getD t42.toNat default).At.Kind (t40.getD t42.toNat default).At.Row (t40.getD t42.toNat default).At.Ag (t40.getD t42.toNat default).At.Func (t40.getD t42.toNat default).At.Items (t40.getD t42.toNat default).At.Op (t40.getD t42.toNat default).At.Bd)) λr4=>.i (decide (r4≥0)) (.k (.inl false)) (.bn (zB (At.mk (t40.getD t42.toNat default).At.Kind (t40.getD t42.toNat default).At.Row (t40.getD t42.toNat default).At.Ag (t40.getD t42.toNat default).At.Func (t40.getD t42.toNat default).At.Items (t40.getD t42.toNat default).At.Op (t40.getD t42.toNat default).At.Bd)) λr3=>.i (!r3) (.k (.inl false)) (.h (a,(),t10,t11,t12,t40,t41,(IntKind.i64.wrap (t42+1)),()) (t,())))) .d) (.bn (zB (At.mk (t40.getD t42.toNat default).At.Kind (t40.getD t42.toNat default).At.Row (t40.getD t42.toNat default).At.Ag (t40.getD t42.toNat default).At.Func (t40.getD t42.toNat default).At.Items (t40.getD t42.toNat default).At.Op (t40.getD t42.toNat default).At.Bd)) λr5=>.i (!r5) (.k (.inl false)) (.h (a,(),t10,t11,t12,t40,t41,(IntKind.i64.wrap (t42+1)),()) (t,())))))) .d) (.k (.inr (a,t10,t11,t12)))
def zub (zB:At->Bool×Bool) (x:zq0) (y:Term×Unit):=zjL zB x.1 x.2.2.1 x.2.2.2.1 x.2.2.2.2.1 x.2.2.2.2.2.1 x.2.2.2.2.2.2.1 x.2.2.2.2.2.2.2.1 y.1
def zuh (zB:At->Bool×Bool) (n:Nat) (a:yB) (t10:yB) (t11:Int) (t12:Int) (t40:yC) (t41:Int) (t42:Int) (t:Term):=zx (zub zB) (.inl default) n (a,(),t10,t11,t12,t40,t41,t42,()) (t,())
def zMK (r:zCX):LTree ty:=.ite (isL r) (.done .ret [.lit (.bool (getL r))] []) (.done (.exit 2) [.sl 107 (getR r).1,.sl 107 (getR r).2.1,.lit (.int .i64 (getR r).2.2.1),.lit (.int .i64 (getR r).2.2.2)] [])
def zM5:LL ty zq0:=za (lSl 107) (za (zdo 340 0) (za (lSl 107) (za zi (za zi (za (lSl 145) (za zi (za zi zo)))))))
def zOa:BL ty (Term×Unit):=zeM (zfh (λx=>(⟨x.1,x.2.1⟩:Term)) (λx=>(x.Cf,x.Fs,())) (λ_=>rfl) (za (zW .i64) (za (lSl 145) zo))) false (zbu)
def zjT (zB:At->Bool×Bool) (a:yB) (t10:yB) (t11:Int) (t12:Int):Wy zqY Unit (Bool⊕Unit):=.i (decide (t12<t11)) (.i (decide (0<=t12)&&decide (t12<Int.ofNat t10.length)) (.i (decide ((t10.getD t12.toNat default).Cf<1)) (.k (.inl false)) (.i (decide ((t10.getD t12.toNat default).Cf>1152921504606846976)) (.k (.inl false)) (.i (decide (t12>0)) (.i (decide (0<=IntKind.i64.wrap (t12 - 1))&&decide (IntKind.i64.wrap (t12 - 1)<Int.ofNat a.length)) (.bn (zbX (a.getD (IntKind.i64.wrap (t12 - 1)).toNat default) (t10.getD t12.toNat default)) λr15=>.i (decide (r15≥0)) (.k (.inl false)) (.bn (zuh zB (a.length+t10.length+t11.toNat +t12.toNat +(t10.getD t12.toNat default).Fs.length+(Int.ofNat (t10.getD t12.toNat default).Fs.length).toNat +Int.toNat 0+(t10.getD t12.toNat default).Fs.length+1) a t10 t11 t12 (t10.getD t12.toNat default).Fs (Int.ofNat (t10.getD t12.toNat default).Fs.length) 0 (t10.getD t12.toNat default)) λr14=>.i (isL r14) (.k (.inl (getL r14))) (.h ((getR r14).1,(getR r14).2.1,(getR r14).2.2.1,(IntKind.i64.wrap ((getR r14).2.2.2+1)),()) ()))) .d) (.bn (zuh zB (a.length+t10.length+t11.toNat +t12.toNat +(t10.getD t12.toNat default).Fs.length+(Int.ofNat (t10.getD t12.toNat default).Fs.length).toNat +Int.toNat 0+(t10.getD t12.toNat default).Fs.length+1) a t10 t11 t12 (t10.getD t12.toNat default).Fs (Int.ofNat (t10.getD t12.toNat default).Fs.length) 0 (t10.getD t12.toNat default)) λr16=>.i (isL r16) (.k (.inl (getL r16))) (.h ((getR r16).1,(getR r16).2.1,(getR r16).2.2.1,(IntKind.i64.wrap ((getR r16).2.2.2+1)),()) ()))))) .d) (.k (.inr ()))
def zup (zB:At->Bool×Bool) (x:zqY) (y:Unit):=zjT zB x.1 x.2.1 x.2.2.1 x.2.2.2.1
def zA9 (zB:At->Bool×Bool) (n:Nat) (a:yB) (t10:yB) (t11:Int) (t12:Int):=zx (zup zB) (.inl default) n (a,t10,t11,t12,()) ()
def zNV:LL ty zqY:=za (lSl 107) (za (lSl 107) (za zi (za zi zo)))
def zLP (x:zq0) (y:Term×Unit):Nat:=(x.1.length+x.2.2.1.length+Int.toNat x.2.2.2.1+Int.toNat x.2.2.2.2.1+x.2.2.2.2.2.1.length+Int.toNat x.2.2.2.2.2.2.1+Int.toNat x.2.2.2.2.2.2.2.1+y.1.Fs.length+1)
def zMR (x:zqY) (y:Unit):Nat:=(x.1.length+x.2.1.length+Int.toNat x.2.2.1+Int.toNat x.2.2.2.1+1)
def ztT (zB:At->Bool×Bool):=zcG base 85 [(103,ztj),(104,ziz),(105,zjs),(106,zl3),(107,(zmq zB))] [] [(4,(kpL [0,10,11,12])),(9,(kpL [0,4,10,11,12,40,41,42]))] [(4,1,[]),(4,0,(kpL [2])),(9,3,(kpL [0,10,11,12])),(9,0,(kpL [2]))] [(9,spW zM5 zOa (zub zB) (.inl default) zMK zLP),(4,spW zNV z2p (zup zB) (.inl default) zmM zMR)] []
theorem zMP (zB:At->Bool×Bool):zR (ztT zB) (lp (body f52) 1):=zD (id:=9) (hl:=rfl)
theorem zMs (zB:At->Bool×Bool):zR (ztT zB) (lp (body f52) 0):=zD (id:=4) (hl:=rfl)
def zCt (zB:At->Bool×Bool) (a:yB):Wy0 (Bool):=.bn (zk2 a) λr21=>.i (!r21) (.k false) (.bn (zA9 zB (a.length+a.length+(Int.ofNat a.length).toNat +Int.toNat 0+1) a a (Int.ofNat a.length) 0) λr20=>.i (isL r20) (.k (getL r20)) (.k true))
def zmr (zB:At->Bool×Bool) (a:yB):=(zCt zB a).fin default
theorem zJz (zB:At->Bool×Bool) (zJK:SdP 107 (zmq zB)):SdP 52 (zhP (zmr zB)):=
 sT (cx':=(ztT zB)) (zk ⟨zyW,zlg,zmx,ztp,zJK,trivial⟩) call52 func52 (lOK (aC (zMs zB) (aC (zMP zB) aN)))
def z0H:=zbM base 36 []
def zQ1 (v:Value):Wy0 (Bool):=.i (v.Kind==0) (.k (v.Text.toList==(ByteArray.mk #[]).toList)) (.i (v.Kind==1) (.i (v.Int==0) (.k (decide (Int.ofNat v.Text.size<=255))) (.k false)) (.i (v.Kind==2) (.i (v.Int==0) (.k (v.Text.toList==(ByteArray.mk #[]).toList)) (.i (v.Int==1) (.k (v.Text.toList==(ByteArray.mk #[]).toList)) (.k false))) (.k false)))
def zpw (v:Value):=(zQ1 v).fin default
def z18:AL base (Value×Unit):=zf (zg (zcT 79)) zA
def zqc:=zh z18 λx=>((zpw x.1).1,zRy (zpw x.1).2)
theorem ztF:SdP 91 zqc:=
 sT (cx':=z0H) (zk trivial) call91 func91 (lOK aN)
def zIv:=zbM base 27 [(91,zqc)]
def zyU (w:Wd) (p1:Value) (p2:Int):Wy0 (Bool):=.bn (zpw w.Value) λr0=>.i (!r0) (.k true) (.i (w.Value.Kind != p1.Kind) (.k true) (.i (p2==0) (.k (w.Value.Int != 1)) (.k false)))
def zhD (w:Wd) (p1:Value) (p2:Int):=(zyU w p1 p2).fin default
def zK0:AL base (Wd×Value×(Int×Unit)×Unit):=zf (zg (zcT 169)) (zf (zg (zXT 79)) (zf (zg (zZE (zyC ziU zc6))) zA))
def zjt:=zh zK0 λx=>((zhD x.1 x.2.1 x.2.2.1.1).1,zRy (zhD x.1 x.2.1 x.2.2.1.1).2)
theorem zmL:SdP 229 zjt:=
 sT (cx':=zIv) (zk ⟨ztF,trivial⟩) call229 func229 (lOK aN)
abbrev zdH:=yD×(Value×(Int×Unit)×Unit)×Int×Int×Unit
def zpC (s:yD) (f_0:Value) (f_1:Int) (t7:Int) (t8:Int):Wy zdH Unit (Int⊕Unit):=.i (decide (t8<t7)) (.i (decide (0<=t8)&&decide (t8<Int.ofNat s.length)) (.bn (zhD (s.getD t8.toNat default) f_0 f_1) λr0=>.i (r0) (.k (.inl t8)) (.h (s,(f_0,(f_1,()),()),t7,(IntKind.i64.wrap (t8+1)),()) ())) .d) (.k (.inr ()))
def zhE (x:zdH) (y:Unit):=zpC x.1 x.2.1.1 x.2.1.2.1.1 x.2.2.1 x.2.2.2.1
def zpD (n:Nat) (s:yD) (f_0:Value) (f_1:Int) (t7:Int) (t8:Int):=zx (zhE) (.inl default) n (s,(f_0,(f_1,()),()),t7,t8,()) ()
def zpP:LL ty zdH:=za (lSl 169) (za (lFn 229 (za (zFl (zfh (λx=>(⟨x.1,x.2.1,x.2.2.1⟩:Value)) (λx=>(x.Kind,x.Int,x.Text,())) (λ_=>rfl) (za zi (za zi (za zzj zo)))) 0) (za (zFl (za zi zo) 0) zo))) (za zi (za zi zo)))
def zpr (x:zdH) (y:Unit):Nat:=(x.1.length+Int.toNat x.2.1.2.1.1+Int.toNat x.2.2.1+Int.toNat x.2.2.2.1+1)
def zhB:=zcG base 19 [(229,zjt)] [] [(2,(kpL [0,1,7,8]))] [(2,1,[]),(2,0,(kpL [4]))] [(2,spW zpP z2p (zhE) (.inl default) zrz zpr)] []
theorem zoT:zR zhB (lp (body f228) 0):=zD (id:=2) (hl:=rfl)
def zqv (s:yD) (f_0:Value) (f_1:Int):Wy0 (Int):=.bn (zpD (s.length+f_1.toNat +(Int.ofNat s.length).toNat +Int.toNat 0+1) s f_0 f_1 (Int.ofNat s.length) 0) λr2=>.i (isL r2) (.k (getL r2)) (.k (-1:Int))
def zdj (s:yD) (f_0:Value) (f_1:Int):=(zqv s f_0 f_1).fin default
def zp5:AL base (yD×(Value×(Int×Unit)×Unit)×Unit):=zf (zg (vSl 169)) (zf (zg (vFn 229 (zyC (zXT 79) (zyC (zZE (zyC ziU zc6)) zc6)))) zA)
def zgW:=zh zp5 λx=>((zdj x.1 x.2.1.1 x.2.1.2.1.1).1,zMi (zdj x.1 x.2.1.1 x.2.1.2.1.1).2)
theorem zn1:SdP 228 zgW:=
 sT (cx':=zhB) (zk ⟨zmL,trivial⟩) call228 func228 (lOK (aC zoT aN))
def znR:=zbM base 9 [(228,zgW),(229,zjt)]
def zgY (s:yD) (f_0:Value) (f_1:Int):Wy0 (Bool):=.bn (zdj s f_0 f_1) λr0=>.k (decide (r0≥0))
def zbq (s:yD) (f_0:Value) (f_1:Int):=(zgY s f_0 f_1).fin default
def zfU:=zh zp5 λx=>((zbq x.1 x.2.1.1 x.2.1.2.1.1).1,zRy (zbq x.1 x.2.1.1 x.2.1.2.1.1).2)
theorem zme:SdP 178 zfU:=
 sT (cx':=znR) (zk ⟨zn1,zmL,trivial⟩) call178 func178 (lOK aN)
def zN0:=zbM base 43 [(91,zqc),(178,zfU),(229,zjt)]
def zCo (fn:Int) (items:yD) (op:Int) (bound:Value):Wy0 (Bool):=.i (decide (fn<0)) (.k false) (.i (decide (fn>3)) (.k false) (.i (decide (op<5)) (.k false) (.i (decide (op>10)) (.k false) (.bn (zpw bound) λr3=>.i (!r3) (.k false) (.i (fn==0) (.i (bound.Kind != 0) (.k false) (.bn (zbq items bound fn) λr0=>.k (!r0))) (.i (fn==1) (.i (bound.Kind != 0) (.k false) (.bn (zbq items bound fn) λr1=>.k (!r1))) (.bn (zbq items bound fn) λr2=>.k (!r2))))))))
def zjN (fn:Int) (items:yD) (op:Int) (bound:Value):=(zCo fn items op bound).fin default
def zQF:AL base (Int×yD×Int×Value×Unit):=zf (zg ziU) (zf (zg (vSl 169)) (zf (zg ziU) (zf (zg (zcT 79)) zA)))
def zrX:=zh zQF λx=>((zjN x.1 x.2.1 x.2.2.1 x.2.2.2.1).1,zRy (zjN x.1 x.2.1 x.2.2.1 x.2.2.2.1).2)
theorem zxN:SdP 181 zrX:=
 sT (cx':=zN0) (zk ⟨ztF,zme,zmL,trivial⟩) call181 func181 (lOK aN)
def zDo:=zbM base 7 []
def zuR (t:Term):Wy0 (Bool):=.k (Int.ofNat t.Fs.length==0)
def zhc (t:Term):=(zuR t).fin default
def zhe:=zh zMT λx=>((zhc x.1).1,zRy (zhc x.1).2)
theorem zkd:SdP 227 zhe:=
 sT (cx':=zDo) (zk trivial) call227 func227 (lOK aN)
abbrev zd9:=yB×Unit×Int×Int×Unit
def zrJ (s:yB) (t7:Int) (t8:Int):Wy zd9 Unit (Int⊕Unit):=.i (decide (t8<t7)) (.i (decide (0<=t8)&&decide (t8<Int.ofNat s.length)) (.i ((zhc (s.getD t8.toNat default)).2) (.k (.inl t8)) (.h (s,(),t7,(IntKind.i64.wrap (t8+1)),()) ())) .d) (.k (.inr ()))
def ziO (x:zd9) (y:Unit):=zrJ x.1 x.2.2.1 x.2.2.2.1
def zru (n:Nat) (s:yB) (t7:Int) (t8:Int):=zx (ziO) (.inl default) n (s,(),t7,t8,()) ()
def zrV:LL ty zd9:=za (lSl 107) (za (lFn 227 (zo)) (za zi (za zi zo)))
def zq9 (x:zd9) (y:Unit):Nat:=(x.1.length+Int.toNat x.2.2.1+Int.toNat x.2.2.2.1+1)
def ziA:=zcG base 19 [(227,zhe)] [] [(2,(kpL [0,1,7,8]))] [(2,1,[]),(2,0,(kpL [4]))] [(2,spW zrV z2p (ziO) (.inl default) zrz zq9)] []
theorem zq8:zR ziA (lp (body f221) 0):=zD (id:=2) (hl:=rfl)
def zsO (s:yB):Wy0 (Int):=.bn (zru (s.length+(Int.ofNat s.length).toNat +Int.toNat 0+1) s (Int.ofNat s.length) 0) λr0=>.i (isL r0) (.k (getL r0)) (.k (-1:Int))
def zdO (s:yB):=(zsO s).fin default
def zsS:AL base (yB×Unit×Unit):=zf (zg (vSl 107)) (zf (zg (vFn 227 zc6)) zA)
def zh1:=zh zsS λx=>((zdO x.1).1,zMi (zdO x.1).2)
theorem zpO:SdP 221 zh1:=
 sT (cx':=ziA) (zk ⟨zkd,trivial⟩) call221 func221 (lOK (aC zq8 aN))
def zpz:=zbM base 9 [(221,zh1),(227,zhe)]
def zh2 (s:yB):Wy0 (Bool):=.bn (zdO s) λr0=>.k (decide (r0≥0))
def zdh (s:yB):=(zh2 s).fin default
def zgR:=zh zsS λx=>((zdh x.1).1,zRy (zdh x.1).2)
theorem znK:SdP 161 zgR:=
 sT (cx':=zpz) (zk ⟨zpO,zkd,trivial⟩) call161 func161 (lOK aN)
def zG5:=zbM base 5 [(161,zgR),(227,zhe)]
def zxv (a:yB):Wy0 (Bool):=.bn (zdh a) λr0=>.k r0
def zeX (a:yB):=(zxv a).fin default
def zmS:=zh zUN λx=>((zeX x.1).1,zRy (zeX x.1).2)
theorem zul:SdP 177 zmS:=
 sT (cx':=zG5) (zk ⟨znK,zkd,trivial⟩) call177 func177 (lOK aN)
def zI5:=zbM base 14 []
def zyS (a:yB):Wy0 (Bool):=.i (Int.ofNat a.length==1) (.i (decide ((0:Int)<=(0:Int))&&decide (0<Int.ofNat a.length)) (.k (Int.ofNat (a.getD (Int.toNat 0) default).Fs.length==0)) .d) (.k false)
def zhz (a:yB):=(zyS a).fin default
def znI:=zh zUN λx=>((zhz x.1).1,zRy (zhz x.1).2)
theorem zuU:SdP 175 znI:=
 sT (cx':=zI5) (zk trivial) call175 func175 (lOK aN)
def zPc:=zbM base 42 [(105,zjs)]
def zCV (a:yB):Wy0 (Bool):=.i (Int.ofNat a.length != 1) (.k false) (.i (decide ((0:Int)<=(0:Int))&&decide (0<Int.ofNat a.length)) (.i ((a.getD (Int.toNat 0) default).Cf != 1) (.k false) (.i (decide ((0:Int)<=(0:Int))&&decide (0<Int.ofNat a.length)) (.i (Int.ofNat (a.getD (Int.toNat 0) default).Fs.length != 1) (.k false) (.i (decide ((0:Int)<=(0:Int))&&decide (0<Int.ofNat a.length)) (.i (decide ((0:Int)<=(0:Int))&&decide (0<Int.ofNat (a.getD (Int.toNat 0) default).Fs.length)) (.i (((a.getD (Int.toNat 0) default).Fs.getD (Int.toNat 0) default).Exp==1) (.i (((a.getD (Int.toNat 0) default).Fs.getD (Int.toNat 0) default).At.Kind==2) (.k true) (.bn (zfF (At.mk ((a.getD (Int.toNat 0) default).Fs.getD (Int.toNat 0) default).At.Kind ((a.getD (Int.toNat 0) default).Fs.getD (Int.toNat 0) default).At.Row ((a.getD (Int.toNat 0) default).Fs.getD (Int.toNat 0) default).At.Ag ((a.getD (Int.toNat 0) default).Fs.getD (Int.toNat 0) default).At.Func ((a.getD (Int.toNat 0) default).Fs.getD (Int.toNat 0) default).At.Items ((a.getD (Int.toNat 0) default).Fs.getD (Int.toNat 0) default).At.Op ((a.getD (Int.toNat 0) default).Fs.getD (Int.toNat 0) default).At.Bd)) λr0=>.k r0)) (.k false)) .d) .d)) .d)) .d)
def zk4 (a:yB):=(zCV a).fin default
def zti:=zh zUN λx=>((zk4 x.1).1,zRy (zk4 x.1).2)
theorem zyX:SdP 176 zti:=
 sT (cx':=zPc) (zk ⟨zmx,trivial⟩) call176 func176 (lOK aN)
def zZa:=zbM base 11 []
def zN4 (id:RowID):Wy0 (Bool):=.i (decide (id.Table≥1)) (.k (decide (id.Seq≥1))) (.k false)
def zqU (id:RowID):=(zN4 id).fin default
def ztC:=zh z5r λx=>((zqU x.1).1,zRy (zqU x.1).2)
theorem zyk:SdP 116 ztC:=
 sT (cx':=zZa) (zk trivial) call116 func116 (lOK aN)
abbrev zeQ:=yD×Unit×Int×Unit
def zep (x_:yD) (i:Int):Wy zeQ Unit (Bool⊕Unit):=.i (decide (i>0)) (.i (decide (0<=i)&&decide (i<Int.ofNat x_.length)) (.i (decide (0<=IntKind.i64.wrap (i - 1))&&decide (IntKind.i64.wrap (i - 1)<Int.ofNat x_.length)) (.bn (zY (x_.getD i.toNat default) (x_.getD (IntKind.i64.wrap (i - 1)).toNat default)) λr0=>.i (decide (r0<0)) (.k (.inl false)) (.h (x_,(),(IntKind.i64.wrap (i - 1)),()) ())) .d) .d) (.k (.inr ()))
def zht (x:zeQ) (y:Unit):=zep x.1 x.2.2.1
def zeo (n:Nat) (x_:yD) (i:Int):=zx (zht) (.inl default) n (x_,(),i,()) ()
def zpL:LL ty zeQ:=za (lSl 169) (za (lFn 172 (zo)) (za zi zo))
def zhx:=zcG base 25 [(172,zfD)] [] [(2,(kpL [0,1,5]))] [(2,1,[]),(2,0,(kpL [4]))] [(2,spW zpL z2p (zht) (.inl default) zmM λx y=>(x.1.length+Int.toNat x.2.2.1+1))] []
theorem zo1:zR zhx (lp (body f180) 0):=zD (id:=2) (hl:=rfl)
def zhT (x_:yD):Wy0 (Bool):=.bn (zeo (x_.length+(IntKind.i64.wrap (Int.ofNat x_.length - 1)).toNat +1) x_ (IntKind.i64.wrap (Int.ofNat x_.length - 1))) λr2=>.i (isL r2) (.k (getL r2)) (.k true)
def zcj (x_:yD):=(zhT x_).fin default
def zql:AL base (yD×Unit×Unit):=zf (zg (vSl 169)) (zf (zg (vFn 172 zc6)) zA)
def zgP:=zh zql λx=>((zcj x.1).1,zRy (zcj x.1).2)
theorem znZ:SdP 180 zgP:=
 sT (cx':=zhx) (zk ⟨zhH,trivial⟩) call180 func180 (lOK (aC zo1 aN))
def zcO (zb:yA->Bool×Bool) (zd:yB->Bool×Bool) (zc:yD->Bool×Bool) (ze:Wd->Bool×Bool):=zbM base 149 [(115,znF),(116,ztC),(172,zfD),(173,(zcl zb)),(174,(zhP zd)),(175,znI),(176,zti),(177,zmS),(178,(zcH zc)),(179,(zdu ze)),(180,zgP),(181,zrX)]
def zca (zb:yA->Bool×Bool) (zd:yB->Bool×Bool) (zc:yD->Bool×Bool) (ze:Wd->Bool×Bool) (x_:At):Wy0 (Bool):=.i (x_.Kind==0) (.i (x_.Func != 0) (.k false) (.i (Int.ofNat x_.Items.length != 0) (.k false) (.i (x_.Op != 0) (.k false) (.i (!(x_.Bd.Kind==0&&(x_.Bd.Int==0&&(x_.Bd.Text.toList==(ByteArray.mk #[]).toList&&true)))) (.k false) (.bn (zb x_.Ag) λr1=>.i (r1) (.k false) (.bn (zqU x_.Row) λr0=>.i (r0) (.k (Int.ofNat x_.Ag.length==0)) (.k false))))))) (.i (x_.Kind==1) (.i (x_.Func != 0) (.k false) (.i (Int.ofNat x_.Items.length != 0) (.k false) (.i (x_.Op != 0) (.k false) (.i (!(x_.Bd.Kind==0&&(x_.Bd.Int==0&&(x_.Bd.Text.toList==(ByteArray.mk #[]).toList&&true)))) (.k false) (.i (!(x_.Row.Table==0&&(x_.Row.Seq==0&&true))) (.k false) (.bn (zb x_.Ag) λr3=>.i (r3) (.k false) (.i (Int.ofNat x_.Ag.length==2) (.i (decide ((0:Int)<=(0:Int))&&decide (0<Int.ofNat x_.Ag.length)) (.i (decide ((0:Int)<=(1:Int))&&decide (1<Int.ofNat x_.Ag.length)) (.bn (zf7 (x_.Ag.getD (Int.toNat 0) default) (x_.Ag.getD (Int.toNat 1) default)) λr2=>.k (!r2)) .d) .d) (.k false)))))))) (.i (x_.Kind==2) (.i (x_.Func != 0) (.k false) (.i (Int.ofNat x_.Items.length != 0) (.k false) (.i (x_.Op != 0) (.k false) (.i (!(x_.Bd.Kind==0&&(x_.Bd.Int==0&&(x_.Bd.Text.toList==(ByteArray.mk #[]).toList&&true)))) (.k false) (.i (!(x_.Row.Table==0&&(x_.Row.Seq==0&&true))) (.k false) (.bn (zb x_.Ag) λr6=>.i (r6) (.k false) (.i (Int.ofNat x_.Ag.length==1) (.i (decide ((0:Int)<=(0:Int))&&decide (0<Int.ofNat x_.Ag.length)) (.bn (zhz (x_.Ag.getD (Int.toNat 0) default)) λr5=>.i (!r5) (.i (decide ((0:Int)<=(0:Int))&&decide (0<Int.ofNat x_.Ag.length)) (.bn (zk4 (x_.Ag.getD (Int.toNat 0) default)) λr4=>.k (!r4)) .d) (.k false)) .d) (.k false)))))))) (.i (x_.Kind==3) (.i (x_.Func != 0) (.k false) (.i (Int.ofNat x_.Items.length != 0) (.k false) (.i (x_.Op != 0) (.k false) (.i (!(x_.Bd.Kind==0&&(x_.Bd.Int==0&&(x_.Bd.Text.toList==(ByteArray.mk #[]).toList&&true)))) (.k false) (.i (!(x_.Row.Table==0&&(x_.Row.Seq==0&&true))) (.k false) (.bn (zb x_.Ag) λr8=>.i (r8) (.k false) (.i (Int.ofNat x_.Ag.length==1) (.i (decide ((0:Int)<=(0:Int))&&decide (0<Int.ofNat x_.Ag.length)) (.bn (zeX (x_.Ag.getD (Int.toNat 0) default)) λr7=>.k (!r7)) .d) (.k false)))))))) (.i (x_.Kind==4) (.i (!(x_.Row.Table==0&&(x_.Row.Seq==0&&true))) (.k false) (.bn (zb x_.Ag) λr12=>.i (r12) (.k false) (.bn (zc x_.Items) λr11=>.i (Int.ofNat x_.Ag.length==0) (.i (decide (Int.ofNat x_.Items.length>0)) (.i (!r11) (.bn (zcj x_.Items) λr10=>.i (r10) (.bn (zjN x_.Func x_.Items x_.Op x_.Bd) λr9=>.k r9) (.k false)) (.k false)) (.k false)) (.k false)))) (.i (x_.Func != 0) (.k false) (.i (Int.ofNat x_.Items.length != 0) (.k false) (.i (x_.Op != 0) (.k false) (.i (!(x_.Bd.Kind==0&&(x_.Bd.Int==0&&(x_.Bd.Text.toList==(ByteArray.mk #[]).toList&&true)))) (.k false) (.i (!(x_.Row.Table==0&&(x_.Row.Seq==0&&true))) (.k false) (.bn (zb x_.Ag) λr14=>.i (r14) (.k false) (.k false)))))))))))
def zjq (zb:yA->Bool×Bool) (zd:yB->Bool×Bool) (zc:yD->Bool×Bool) (ze:Wd->Bool×Bool) (x_:At):=(zca zb zd zc ze x_).fin default
theorem zED (zb:yA->Bool×Bool) (zd:yB->Bool×Bool) (zc:yD->Bool×Bool) (ze:Wd->Bool×Bool) (v_Row:RowID) (v_Args:yA) (v_Func:Int) (v_Items:yD) (v_Op:Int) (v_Bound:Value)  :zet (zcO zb zd zc ze) f107 (body f107) ⟨[.pure],[]⟩ [.pure (.agg (base.enc 143 (At.mk (Int.ofNat 0) v_Row v_Args v_Func v_Items v_Op v_Bound)))]=(zca zb zd zc ze (At.mk (Int.ofNat 0) v_Row v_Args v_Func v_Items v_Op v_Bound)).ev noH (λr=>some (zRy r)) none:=by kernel_rfl
theorem zFk (zb:yA->Bool×Bool) (zd:yB->Bool×Bool) (zc:yD->Bool×Bool) (ze:Wd->Bool×Bool) (v_Row:RowID) (v_Args:yA) (v_Func:Int) (v_Items:yD) (v_Op:Int) (v_Bound:Value)  :zet (zcO zb zd zc ze) f107 (body f107) ⟨[.pure],[]⟩ [.pure (.agg (base.enc 143 (At.mk (Int.ofNat 1) v_Row v_Args v_Func v_Items v_Op v_Bound)))]=(zca zb zd zc ze (At.mk (Int.ofNat 1) v_Row v_Args v_Func v_Items v_Op v_Bound)).ev noH (λr=>some (zRy r)) none:=by kernel_rfl
theorem zEI (zb:yA->Bool×Bool) (zd:yB->Bool×Bool) (zc:yD->Bool×Bool) (ze:Wd->Bool×Bool) (v_Row:RowID) (v_Args:yA) (v_Func:Int) (v_Items:yD) (v_Op:Int) (v_Bound:Value)  :zet (zcO zb zd zc ze) f107 (body f107) ⟨[.pure],[]⟩ [.pure (.agg (base.enc 143 (At.mk (Int.ofNat 2) v_Row v_Args v_Func v_Items v_Op v_Bound)))]=(zca zb zd zc ze (At.mk (Int.ofNat 2) v_Row v_Args v_Func v_Items v_Op v_Bound)).ev noH (λr=>some (zRy r)) none:=by kernel_rfl
theorem zEs (zb:yA->Bool×Bool) (zd:yB->Bool×Bool) (zc:yD->Bool×Bool) (ze:Wd->Bool×Bool) (v_Row:RowID) (v_Args:yA) (v_Func:Int) (v_Items:yD) (v_Op:Int) (v_Bound:Value)  :zet (zcO zb zd zc ze) f107 (body f107) ⟨[.pure],[]⟩ [.pure (.agg (base.enc 143 (At.mk (Int.ofNat 3) v_Row v_Args v_Func v_Items v_Op v_Bound)))]=(zca zb zd zc ze (At.mk (Int.ofNat 3) v_Row v_Args v_Func v_Items v_Op v_Bound)).ev noH (λr=>some (zRy r)) none:=by kernel_rfl
theorem zFv (zb:yA->Bool×Bool) (zd:yB->Bool×Bool) (zc:yD->Bool×Bool) (ze:Wd->Bool×Bool) (v_Row:RowID) (v_Args:yA) (v_Func:Int) (v_Items:yD) (v_Op:Int) (v_Bound:Value)  :zet (zcO zb zd zc ze) f107 (body f107) ⟨[.pure],[]⟩ [.pure (.agg (base.enc 143 (At.mk (Int.ofNat 4) v_Row v_Args v_Func v_Items v_Op v_Bound)))]=(zca zb zd zc ze (At.mk (Int.ofNat 4) v_Row v_Args v_Func v_Items v_Op v_Bound)).ev noH (λr=>some (zRy r)) none:=by kernel_rfl
theorem zEA (zb:yA->Bool×Bool) (zd:yB->Bool×Bool) (zc:yD->Bool×Bool) (ze:Wd->Bool×Bool) (n:Nat) (v_Row:RowID) (v_Args:yA) (v_Func:Int) (v_Items:yD) (v_Op:Int) (v_Bound:Value)  :zet (zcO zb zd zc ze) f107 (body f107) ⟨[.pure],[]⟩ [.pure (.agg (base.enc 143 (At.mk (Int.ofNat (n+5)) v_Row v_Args v_Func v_Items v_Op v_Bound)))]=(zca zb zd zc ze (At.mk (Int.ofNat (n+5)) v_Row v_Args v_Func v_Items v_Op v_Bound)).ev noH (λr=>some (zRy r)) none:=by kernel_rfl
theorem zFu (zb:yA->Bool×Bool) (zd:yB->Bool×Bool) (zc:yD->Bool×Bool) (ze:Wd->Bool×Bool) (n:Nat) (v_Row:RowID) (v_Args:yA) (v_Func:Int) (v_Items:yD) (v_Op:Int) (v_Bound:Value)  :zet (zcO zb zd zc ze) f107 (body f107) ⟨[.pure],[]⟩ [.pure (.agg (base.enc 143 (At.mk (Int.negSucc n) v_Row v_Args v_Func v_Items v_Op v_Bound)))]=(zca zb zd zc ze (At.mk (Int.negSucc n) v_Row v_Args v_Func v_Items v_Op v_Bound)).ev noH (λr=>some (zRy r)) none:=by kernel_rfl
theorem zFF (zb:yA->Bool×Bool) (zd:yB->Bool×Bool) (zc:yD->Bool×Bool) (ze:Wd->Bool×Bool) (x_:At):zet (zcO zb zd zc ze) f107 (body f107) ⟨[.pure],[]⟩ [.pure (.agg (base.enc 143 x_))]=(zca zb zd zc ze x_).ev noH (λr=>some (zRy r)) none:=by
 obtain ⟨v_Kind,v_Row,v_Args,v_Func,v_Items,v_Op,v_Bound⟩:=x_
 match v_Kind with
 | .ofNat 0=>exact zED zb zd zc ze v_Row v_Args v_Func v_Items v_Op v_Bound 
 | .ofNat 1=>exact zFk zb zd zc ze v_Row v_Args v_Func v_Items v_Op v_Bound 
 | .ofNat 2=>exact zEI zb zd zc ze v_Row v_Args v_Func v_Items v_Op v_Bound 
 | .ofNat 3=>exact zEs zb zd zc ze v_Row v_Args v_Func v_Items v_Op v_Bound 
 | .ofNat 4=>exact zFv zb zd zc ze v_Row v_Args v_Func v_Items v_Op v_Bound 
 | .ofNat (n+5)=>exact zEA zb zd zc ze n v_Row v_Args v_Func v_Items v_Op v_Bound 
 | .negSucc n=>exact zFu zb zd zc ze n v_Row v_Args v_Func v_Items v_Op v_Bound 
theorem zDj (zb:yA->Bool×Bool) (zd:yB->Bool×Bool) (zc:yD->Bool×Bool) (ze:Wd->Bool×Bool) (zlA:SdP 173 (zcl zb)) (zfW:SdP 174 (zhP zd)) (zm8:SdP 178 (zcH zc)) (zfY:SdP 179 (zdu ze)):SdP 107 (zmq (zjq zb zd zc ze)):=
 zZB (cx':=(zcO zb zd zc ze)) zzP ze1 z4L (zk ⟨ztd,zyk,zhH,zlA,zfW,zuU,zyX,zul,zm8,zfY,znZ,zxN,trivial⟩) call107 func107 (c:=body f107) (by kernel_rfl) (zsQ (l:=[]) (by kernel_rfl) trivial) (sg:=⟨[.pure],[]⟩) (A:=z3p) (res:=zRy) (W:=λx=>zca zb zd zc ze x.1) (z:=default) (λx=>zFF zb zd zc ze x.1) (λ_=>by kernel_rfl)
def zDF (zbI:yB->Bool×Bool):=zbM base 11 [(52,(zhP zbI))]
def zuQ (zbI:yB->Bool×Bool) (a:yB):Wy0 (Bool):=.bn (zbI a) λr0=>.i (!r0) (.k true) (.k (Int.ofNat a.length==0))
def zj0 (zbI:yB->Bool×Bool) (a:yB):=(zuQ zbI a).fin default
theorem zBg (zbI:yB->Bool×Bool) (zu3:SdP 52 (zhP zbI)):SdP 174 (zhP (zj0 zbI)):=
 sT (cx':=(zDF zbI)) (zk ⟨zu3,trivial⟩) call174 func174 (lOK aN)
def zDT (zbI:yB->Bool×Bool):=zbM base 13 [(52,(zhP zbI))]
def zuT (zbI:yB->Bool×Bool) (w:Wd):Wy0 (Bool):=.bn (zbI w.Ann) λr0=>.i (!r0) (.k true) (.k (Int.ofNat w.Ann.length==0))
def zj4 (zbI:yB->Bool×Bool) (w:Wd):=(zuT zbI w).fin default
theorem zBl (zbI:yB->Bool×Bool) (zu3:SdP 52 (zhP zbI)):SdP 179 (zdu (zj4 zbI)):=
 sT (cx':=(zDT zbI)) (zk ⟨zu3,trivial⟩) call179 func179 (lOK aN)
def zlh (zd:yB->Bool×Bool) (zU:yA->Bool×Int):=zbM base 9 [(174,(zhP zd)),(226,(zcB zU))]
def zfg (zd:yB->Bool×Bool) (zU:yA->Bool×Int) (s:yA):Wy0 (Bool):=.bn (zU s) λr0=>.k (decide (r0≥0))
def zck (zd:yB->Bool×Bool) (zU:yA->Bool×Int) (s:yA):=(zfg zd zU s).fin default
theorem zki (zd:yB->Bool×Bool) (zU:yA->Bool×Int) (zfW:SdP 174 (zhP zd)) (zmv:SdP 226 (zcB zU)):SdP 173 (zcl (zck zd zU)):=
 sT (cx':=(zlh zd zU)) (zk ⟨zfW,zmv,trivial⟩) call173 func173 (lOK aN)
def zmI (ze:Wd->Bool×Bool) (z6:yD->Bool×Int):=zbM base 9 [(179,(zdu ze)),(228,(zcY z6))]
def zgl (ze:Wd->Bool×Bool) (z6:yD->Bool×Int) (s:yD):Wy0 (Bool):=.bn (z6 s) λr0=>.k (decide (r0≥0))
def zcJ (ze:Wd->Bool×Bool) (z6:yD->Bool×Int) (s:yD):=(zgl ze z6 s).fin default
theorem zlu (ze:Wd->Bool×Bool) (z6:yD->Bool×Int) (zfY:SdP 179 (zdu ze)) (zoS:SdP 228 (zcY z6)):SdP 178 (zcH (zcJ ze z6)):=
 sT (cx':=(zmI ze z6)) (zk ⟨zfY,zoS,trivial⟩) call178 func178 (lOK aN)
abbrev zcW:=yA×Unit×Int×Int×Unit
def zmk (zd:yB->Bool×Bool) (s:yA) (t7:Int) (t8:Int):Wy zcW Unit (Int⊕Unit):=.i (decide (t8<t7)) (.i (decide (0<=t8)&&decide (t8<Int.ofNat s.length)) (.bn (zd (s.getD t8.toNat default)) λr0=>.i (r0) (.k (.inl t8)) (.h (s,(),t7,(IntKind.i64.wrap (t8+1)),()) ())) .d) (.k (.inr ()))
def zfN (zd:yB->Bool×Bool) (x:zcW) (y:Unit):=zmk zd x.1 x.2.2.1 x.2.2.2.1
def zmi (zd:yB->Bool×Bool) (n:Nat) (s:yA) (t7:Int) (t8:Int):=zx (zfN zd) (.inl default) n (s,(),t7,t8,()) ()
def zmp:LL ty zcW:=za (lSl 51) (za (lFn 174 (zo)) (za zi (za zi zo)))
def zlV (x:zcW) (y:Unit):Nat:=(x.1.length+Int.toNat x.2.2.1+Int.toNat x.2.2.2.1+1)
def zfP (zd:yB->Bool×Bool):=zcG base 19 [(174,(zhP zd))] [] [(2,(kpL [0,1,7,8]))] [(2,1,[]),(2,0,(kpL [4]))] [(2,spW zmp z2p (zfN zd) (.inl default) zrz zlV)] []
theorem zlU (zd:yB->Bool×Bool):zR (zfP zd) (lp (body f226) 0):=zD (id:=2) (hl:=rfl)
def zmJ (zd:yB->Bool×Bool) (s:yA):Wy0 (Int):=.bn (zmi zd (s.length+(Int.ofNat s.length).toNat +Int.toNat 0+1) s (Int.ofNat s.length) 0) λr2=>.i (isL r2) (.k (getL r2)) (.k (-1:Int))
def zcE (zd:yB->Bool×Bool) (s:yA):=(zmJ zd s).fin default
theorem zle (zd:yB->Bool×Bool) (zfW:SdP 174 (zhP zd)):SdP 226 (zcB (zcE zd)):=
 sT (cx':=(zfP zd)) (zk ⟨zfW,trivial⟩) call226 func226 (lOK (aC (zlU zd) aN))
end Go.Proofs.YtoknknbmfmddbaaGreatDoor
end
