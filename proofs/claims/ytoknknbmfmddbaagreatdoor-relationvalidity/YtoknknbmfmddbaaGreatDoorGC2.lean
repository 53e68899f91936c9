/- Texts of this claim, joined (the program, its functions in plain words, and what they compute). -/
import Derived.Test.YtoknknbmfmddbaaGreatDoorGC1
set_option autoImplicit false
set_option linter.unusedVariables false
set_option linter.unusedSectionVars false
set_option linter.unusedSimpArgs false
set_option maxRecDepth 1000000
set_option maxHeartbeats 0
noncomputable section
namespace Go.Proofs.YtoknknbmfmddbaaGreatDoor
open Go Go.Ab
open Go.Proofs.Tryz
abbrev zch:=yG×yG×Unit×yG×Int×Int×Unit
abbrev zfb:=Int⊕(yG×yG)
def ziX (s1:yG) (s2:yG) (t11:yG) (t12:Int) (t13:Int):Wy zch Unit zfb:=.i (decide (t13<t12)) (.i (decide (0<=t13)&&decide (t13<Int.ofNat t11.length)) (.i (decide (t13≥Int.ofNat s2.length)) (.k (.inl 1)) (.i (decide (0<=t13)&&decide (t13<Int.ofNat s2.length)) (.bn (ziF (t11.getD t13.toNat default) (s2.getD t13.toNat default)) λr0=>.i (r0 != 0) (.k (.inl (r0))) (.h (s1,s2,(),t11,t12,(IntKind.i64.wrap (t13+1)),()) ())) .d)) .d) (.k (.inr (s1,s2)))
def zdY (x:zch) (y:Unit):=ziX x.1 x.2.1 x.2.2.2.1 x.2.2.2.2.1 x.2.2.2.2.2.1
def zi1 (n:Nat) (s1:yG) (s2:yG) (t11:yG) (t12:Int) (t13:Int):=zB (zdY) (.inl default) n (s1,s2,(),t11,t12,t13,()) ()
def ziJ (r:zfb):LTree ty:=.ite (isL r) (.done .ret [.lit (.int .i64 (getL r))] []) (.done (.exit 0) [.sl 79 (getR r).1,.sl 79 (getR r).2] [])
def ziZ:LL ty zch:=za (lSl 79) (za (lSl 79) (za (lFn 131 (zl)) (za (lSl 79) (za zj (za zj zl)))))
def ziK (x:zch) (y:Unit):Nat:=(x.1.length+x.2.1.length+x.2.2.2.1.length+Int.toNat x.2.2.2.2.1+Int.toNat x.2.2.2.2.2.1+1)
def zdW:=zbX base 39 [(131,zly)] [] [(2,(kpL [0,1,2,11,12,13]))] [(2,1,(kpL [0,1])),(2,0,(kpL [6]))] [(2,spW ziZ z3q (zdY) (.inl default) ziJ ziK)] []
theorem ziL:zF zdW (lp (body f130) 0):=zn (id:=2) (hl:=rfl)
def zji (s1:yG) (s2:yG):Wy0 (Int):=.bn (zi1 (s1.length+s2.length+s1.length+(Int.ofNat s1.length).toNat +Int.toNat 0+1) s1 s2 s1 (Int.ofNat s1.length) 0) λr2=>.i (isL r2) (.k (getL r2)) (.i (decide (Int.ofNat (getR r2).1.length<Int.ofNat (getR r2).2.length)) (.k (-1:Int)) (.k 0))
def zb3 (s1:yG) (s2:yG):=(zji s1 s2).fin default
def zjg:AL base (yG×yG×Unit×Unit):=zd (zg (vSl 79)) (zd (zg (vSl 79)) (zd (zg (vFn 131 zcR)) zq))
def zdP:=zh zjg λx=>((zb3 x.1 x.2.1).1,zLH (zb3 x.1 x.2.1).2)
theorem zix:SdP 130 zdP:=
 sT (cx':=zdW) (zi ⟨zpp,trivial⟩) call130 func130 (lOK (aC ziL aN))
def zPk:=zbu base 8 [(130,zdP),(131,zly)]
def zCk (a:yG) (b:yG):Wy0 (Int):=.bn (zb3 a b) λr0=>.k r0
def znf (a:yG) (b:yG):=(zCk a b).fin default
def zRe:AL base (yG×yG×Unit):=zd (zg (vSl 79)) (zd (zg (vSl 79)) zq)
def zyn:=zh zRe λx=>((znf x.1 x.2.1).1,zLH (znf x.1 x.2.1).2)
theorem zJe:SdP 77 zyn:=
 sT (cx':=zPk) (zi ⟨zix,zpp,trivial⟩) call77 func77 (lOK aN)
def zQX:=zbu base 10 [(77,zyn)]
def zDV (x_:Row) (y_:Row):Wy0 (Int):=.bn (znf x_.Values y_.Values) λr0=>.k r0
def zcO (x_:Row) (y_:Row):=(zDV x_ y_).fin default
def zTW:AL base (Row×Row×Unit):=zd (zg (zcb 54)) (zd (zg (zcb 54)) zq)
def ze5:=zh zTW λx=>((zcO x.1 x.2.1).1,zLH (zcO x.1 x.2.1).2)
theorem zfW:SdP 53 ze5:=
 sT (cx':=zQX) (zi ⟨zJe,trivial⟩) call53 func53 (lOK aN)
def zRC:=zbu base 16 [(53,ze5),(115,zl2)]
def zD2 (x_:Row) (y_:Row):Wy0 (Bool):=.bn (zcO x_ y_) λr1=>.i (r1==0) (.bn (zfz x_.Ann y_.Ann) λr0=>.k r0) (.k false)
def zo5 (x_:Row) (y_:Row):=(zD2 x_ y_).fin default
def zr8:=zh zTW λx=>((zo5 x.1 x.2.1).1,zQK (zo5 x.1 x.2.1).2)
theorem zyl:SdP 60 zr8:=
 sT (cx':=zRC) (zi ⟨zfW,zrv,trivial⟩) call60 func60 (lOK aN)
abbrev zc6:=yF×Unit×yF×Int×Int×Unit
def zbS (s2:yF) (t15:yF) (t16:Int) (t17:Int):Wy zc6 Unit (Bool⊕Unit):=.i (decide (t17<t16)) (.i (decide (0<=t17)&&decide (t17<Int.ofNat t15.length)) (.i (decide (0<=t17)&&decide (t17<Int.ofNat s2.length)) (.bn (zo5 (t15.getD t17.toNat default) (s2.getD t17.toNat default)) λr0=>.i (!r0) (.k (.inl false)) (.h (s2,(),t15,t16,(IntKind.i64.wrap (t17+1)),()) ())) .d) .d) (.k (.inr ()))
def zdl (x:zc6) (y:Unit):=zbS x.1 x.2.2.1 x.2.2.2.1 x.2.2.2.2.1
def zfE (n:Nat) (s2:yF) (t15:yF) (t16:Int) (t17:Int):=zB (zdl) (.inl default) n (s2,(),t15,t16,t17,()) ()
def zlC (r:Bool⊕Unit):LTree ty:=.ite (isL r) (.done .ret [.lit (.bool (getL r))] []) (.done (.exit 0) [] [])
def zlZ:LL ty zc6:=za (lSl 54) (za (lFn 60 (zl)) (za (lSl 54) (za zj (za zj zl))))
def zlw (x:zc6) (y:Unit):Nat:=(x.1.length+x.2.2.1.length+Int.toNat x.2.2.2.1+Int.toNat x.2.2.2.2.1+1000)
def zfG:=zbX base 32 [(60,zr8)] [] [(4,(kpL [1,2,15,16,17]))] [(4,1,[]),(4,0,(kpL [6]))] [(4,spW zlZ z3q (zdl) (.inl default) zlC zlw)] []
theorem zlG:zF zfG (lp (body f59) 0):=zn (id:=4) (hl:=rfl)
def zfJ (s1:yF) (s2:yF):Wy0 (Bool):=.i (Int.ofNat s1.length != Int.ofNat s2.length) (.k false) (.bn (zfE (s2.length+s1.length+(Int.ofNat s1.length).toNat +Int.toNat 0+1000) s2 s1 (Int.ofNat s1.length) 0) λr2=>.i (isL r2) (.k (getL r2)) (.k true))
def zb2 (s1:yF) (s2:yF):=(zfJ s1 s2).fin default
def zmJ:AL base (yF×yF×Unit×Unit):=zd (zg (vSl 54)) (zd (zg (vSl 54)) (zd (zg (vFn 60 zcR)) zq))
def zfa:=zh zmJ λx=>((zb2 x.1 x.2.1).1,zQK (zb2 x.1 x.2.1).2)
theorem zkY:SdP 59 zfa:=
 sT (cx':=zfG) (zi ⟨zyl,trivial⟩) call59 func59 (lOK (aC zlG aN))
abbrev zeS:=yH×yH×Int×Int×Unit
def zc0 (s1:yH) (s2:yH) (t12:Int) (t13:Int):Wy zeS Unit (Bool⊕Unit):=.i (decide (t13<t12)) (.i (decide (0<=t13)&&decide (t13<Int.ofNat s1.length)) (.i (decide (0<=t13)&&decide (t13<Int.ofNat s2.length)) (.i (!((s1.getD t13.toNat default).Name.toList==(s2.getD t13.toNat default).Name.toList&&((s1.getD t13.toNat default).Type_==(s2.getD t13.toNat default).Type_&&true))) (.k (.inl false)) (.h (s1,s2,t12,(IntKind.i64.wrap (t13+1)),()) ())) .d) .d) (.k (.inr ()))
def zgi (x:zeS) (y:Unit):=zc0 x.1 x.2.1 x.2.2.1 x.2.2.2.1
def zkz (n:Nat) (s1:yH) (s2:yH) (t12:Int) (t13:Int):=zB (zgi) (.inl default) n (s1,s2,t12,t13,()) ()
def zvv:LL ty zeS:=za (lSl 75) (za (lSl 75) (za zj (za zj zl)))
def zun (x:zeS) (y:Unit):Nat:=(x.1.length+x.2.1.length+Int.toNat x.2.2.1+Int.toNat x.2.2.2.1+1000)
def zkA:=zbX base 26 [] [] [(4,(kpL [0,1,12,13]))] [(4,1,[]),(4,0,(kpL [4]))] [(4,spW zvv z3q (zgi) (.inl default) zlC zun)] []
theorem zuF:zF zkA (lp (body f58) 0):=zn (id:=4) (hl:=rfl)
def zk2 (s1:yH) (s2:yH):Wy0 (Bool):=.i (Int.ofNat s1.length != Int.ofNat s2.length) (.k false) (.bn (zkz (s1.length+s2.length+(Int.ofNat s1.length).toNat +Int.toNat 0+1000) s1 s2 (Int.ofNat s1.length) 0) λr0=>.i (isL r0) (.k (getL r0)) (.k true))
def zds (s1:yH) (s2:yH):=(zk2 s1 s2).fin default
def zwa:AL base (yH×yH×Unit):=zd (zg (vSl 75)) (zd (zg (vSl 75)) zq)
def zjp:=zh zwa λx=>((zds x.1 x.2.1).1,zQK (zds x.1 x.2.1).2)
theorem zsQ:SdP 58 zjp:=
 sT (cx':=zkA) (zi trivial) call58 func58 (lOK (aC zuF aN))
def zVp:=zbu base 17 [(58,zjp),(59,zfa),(60,zr8)]
def zHH (a:Relation) (b:Relation):Wy0 (Bool):=.bn (zds a.Columns b.Columns) λr1=>.i (r1) (.bn (zb2 a.Rows b.Rows) λr0=>.k r0) (.k false)
def zkR (a:Relation) (b:Relation):=(zHH a b).fin default
def zYw:AL base (Relation×Relation×Unit):=zd (zg (zcb 25)) (zd (zg (zcb 25)) zq)
def zu1:=zh zYw λx=>((zkR x.1 x.2.1).1,zQK (zkR x.1 x.2.1).2)
theorem zAy:SdP 16 zu1:=
 sT (cx':=zVp) (zi ⟨zsQ,zkY,zyl,trivial⟩) call16 func16 (lOK aN)
def zSC:AL base (yB×Unit):=zd (zg (vSl 107)) zq
def zhc (F:yB->Bool×Bool):Ab.Spec ty:=zh zSC λx=>((F x.1).1,zQK (F x.1).2)
def zlf (F:At->Bool×Bool):Ab.Spec ty:=zh z36 λx=>((F x.1).1,zQK (F x.1).2)
def zGD:AL base (Wd×Unit):=zd (zg (zcb 169)) zq
def zc3 (F:Wd->Bool×Bool):Ab.Spec ty:=zh zGD λx=>((F x.1).1,zQK (F x.1).2)
def zmD:AL base (yA×Unit×Unit):=zd (zg (vSl 51)) (zd (zg (vFn 174 zcR)) zq)
def zcw (F:yA->Bool×Int):Ab.Spec ty:=zh zmD λx=>((F x.1).1,zLH (F x.1).2)
def zck (F:yA->Bool×Bool):Ab.Spec ty:=zh zmD λx=>((F x.1).1,zQK (F x.1).2)
def zoY:AL base (yD×Unit×Unit):=zd (zg (vSl 169)) (zd (zg (vFn 179 zcR)) zq)
def zcK (F:yD->Bool×Int):Ab.Spec ty:=zh zoY λx=>((F x.1).1,zLH (F x.1).2)
def zcz (F:yD->Bool×Bool):Ab.Spec ty:=zh zoY λx=>((F x.1).1,zQK (F x.1).2)
def zHY:=zbu base 11 []
def zxy (x_:At):Wy0 (Bool):=.i (x_.Kind==3) (.k true) (.k (x_.Kind==4))
def zeX (x_:At):=(zxy x_).fin default
def ziG:=zh z36 λx=>((zeX x.1).1,zQK (zeX x.1).2)
theorem zlK:SdP 105 ziG:=
 sT (cx':=zHY) (zi trivial) call105 func105 (lOK aN)
def znc (F:yB->Bool×Int):Ab.Spec ty:=zh zSC λx=>((F x.1).1,zLH (F x.1).2)
abbrev zqz:=Int×Unit×yB×Int×Int×yC×Int×Int×yA×Int×Int×Unit
abbrev zEl:=Int×yB×Int×Int×yC×Int×Int×Fc
abbrev zqu:=Int×yB×Int×Int×yC×Int×Int×yD×Int×Int×Unit
abbrev zDJ:=Int×yB×Int×Int×yC×Int×Int
abbrev zrk:=Int×yB×Int×Int×yC×Int×Int×Unit
abbrev zDD:=Int×yB×Int×Int
abbrev zqO:=Int×yB×Int×Int×Unit
def ziT (zo:yB->Bool×Int) (n_:Int) (t12:yB) (t13:Int) (t14:Int) (t25:yC) (t26:Int) (t27:Int) (t33:yA) (t34:Int) (t35:Int) (f:Fc):Wy zqz (Fc×Unit) zEl:=.i (decide (t35<t34)) (.i (decide (0<=t35)&&decide (t35<Int.ofNat t33.length)) (.bn (zo (t33.getD t35.toNat default)) λr0=>.h ((IntKind.i64.wrap (n_+r0)),(),t12,t13,t14,t25,t26,t27,t33,t34,(IntKind.i64.wrap (t35+1)),()) (f,())) .d) (.k (n_,t12,t13,t14,t25,t26,t27,f))
def zsb (zo:yB->Bool×Int) (x:zqz) (y:Fc×Unit):=ziT zo x.1 x.2.2.1 x.2.2.2.1 x.2.2.2.2.1 x.2.2.2.2.2.1 x.2.2.2.2.2.2.1 x.2.2.2.2.2.2.2.1 x.2.2.2.2.2.2.2.2.1 x.2.2.2.2.2.2.2.2.2.1 x.2.2.2.2.2.2.2.2.2.2.1 y.1
def zzM (zo:yB->Bool×Int) (n:Nat) (n_:Int) (t12:yB) (t13:Int) (t14:Int) (t25:yC) (t26:Int) (t27:Int) (t33:yA) (t34:Int) (t35:Int) (f:Fc):=zB (zsb zo) default n (n_,(),t12,t13,t14,t25,t26,t27,t33,t34,t35,()) (f,())
def zLv (r:zEl):LTree ty:=.done (.exit 4) [.lit (.int .i64 r.1),.ptr 248 0,.sl 107 r.2.1,.lit (.int .i64 r.2.2.1),.lit (.int .i64 r.2.2.2.1),.sl 145 r.2.2.2.2.1,.lit (.int .i64 r.2.2.2.2.2.1),.lit (.int .i64 r.2.2.2.2.2.2.1)] [.box (base.enc 145 r.2.2.2.2.2.2.2) false]
def zNY:LL ty zqz:=za zj (za (zdd 248 0) (za (lSl 107) (za zj (za zj (za (lSl 145) (za zj (za zj (za (lSl 51) (za zj (za zj zl))))))))))
def zMT:BL ty (Fc×Unit):=zeq (zdO (λx=>(⟨⟨x.1,⟨x.2.1,x.2.2.1⟩,x.2.2.2.1,x.2.2.2.2.1,x.2.2.2.2.2.1,x.2.2.2.2.2.2.1,⟨x.2.2.2.2.2.2.2.1,x.2.2.2.2.2.2.2.2.1,x.2.2.2.2.2.2.2.2.2.1⟩⟩,x.2.2.2.2.2.2.2.2.2.2.1⟩:Fc)) (λx=>(x.At.Kind,x.At.Row.Table,x.At.Row.Seq,x.At.Ag,x.At.Func,x.At.Items,x.At.Op,x.At.Bd.Kind,x.At.Bd.Int,x.At.Bd.Text,x.Exp,())) (λ_=>rfl) (za (zO .i64) (za (zO .i64) (za (zO .i64) (za (lSl 51) (za (zO .i64) (za (lSl 169) (za (zO .i64) (za (zO .i64) (za (zO .i64) (za zjj (za (zO .i64) zl)))))))))))) false (zbb)
def ziQ (zo:yB->Bool×Int) (n_:Int) (t12:yB) (t13:Int) (t14:Int) (t25:yC) (t26:Int) (t27:Int) (t46:yD) (t47:Int) (t48:Int):Wy zqu Unit zDJ:=.i (decide (t48<t47)) (.i (decide (0<=t48)&&decide (t48<Int.ofNat t46.length)) (.bn (zo (t46.getD t48.toNat default).Ann) λr2=>.h ((IntKind.i64.wrap (n_+IntKind.i64.wrap (1+r2))),t12,t13,t14,t25,t26,t27,t46,t47,(IntKind.i64.wrap (t48+1)),()) ()) .d) (.k (n_,t12,t13,t14,t25,t26,t27))
def zsq (zo:yB->Bool×Int) (x:zqu) (y:Unit):=ziQ zo x.1 x.2.1 x.2.2.1 x.2.2.2.1 x.2.2.2.2.1 x.2.2.2.2.2.1 x.2.2.2.2.2.2.1 x.2.2.2.2.2.2.2.1 x.2.2.2.2.2.2.2.2.1 x.2.2.2.2.2.2.2.2.2.1
def zzI (zo:yB->Bool×Int) (n:Nat) (n_:Int) (t12:yB) (t13:Int) (t14:Int) (t25:yC) (t26:Int) (t27:Int) (t46:yD) (t47:Int) (t48:Int):=zB (zsq zo) default n (n_,t12,t13,t14,t25,t26,t27,t46,t47,t48,()) ()
def zLP (r:zDJ):LTree ty:=.done (.exit 6) [.lit (.int .i64 r.1),.sl 107 r.2.1,.lit (.int .i64 r.2.2.1),.lit (.int .i64 r.2.2.2.1),.sl 145 r.2.2.2.2.1,.lit (.int .i64 r.2.2.2.2.2.1),.lit (.int .i64 r.2.2.2.2.2.2)] []
def zMH:LL ty zqu:=za zj (za (lSl 107) (za zj (za zj (za (lSl 145) (za zj (za zj (za (lSl 169) (za zj (za zj zl)))))))))
def zjU (zo:yB->Bool×Int) (n_:Int) (t12:yB) (t13:Int) (t14:Int) (t25:yC) (t26:Int) (t27:Int):Wy zrk Unit zDD:=.i (decide (t27<t26)) (.i (decide (0<=t27)&&decide (t27<Int.ofNat t25.length)) (.bn (zzM zo (n_.toNat +t12.length+t13.toNat +t14.toNat +t25.length+t26.toNat +t27.toNat +(t25.getD t27.toNat default).At.Ag.length+(Int.ofNat (t25.getD t27.toNat default).At.Ag.length).toNat +Int.toNat 0+(t25.getD t27.toNat default).At.Ag.length+(t25.getD t27.toNat default).At.Items.length+1) n_ t12 t13 t14 t25 t26 t27 (t25.getD t27.toNat default).At.Ag (Int.ofNat (t25.getD t27.toNat default).At.Ag.length) 0 (FO.mk (At.mk (t25.getD t27.toNat default).At.Kind (t25.getD t27.toNat default).At.Row (t25.getD t27.toNat default).At.Ag (t25.getD t27.toNat default).At.Func (t25.getD t27.toNat default).At.Items (t25.getD t27.toNat default).At.Op (t25.getD t27.toNat default).At.Bd) (t25.getD t27.toNat default).Exp)) λr5=>.bn (zzI zo (r5.1.toNat +r5.2.1.length+r5.2.2.1.toNat +r5.2.2.2.1.toNat +r5.2.2.2.2.1.length+r5.2.2.2.2.2.1.toNat +r5.2.2.2.2.2.2.1.toNat +r5.2.2.2.2.2.2.2.At.Items.length+(Int.ofNat r5.2.2.2.2.2.2.2.At.Items.length).toNat +Int.toNat 0+1) r5.1 r5.2.1 r5.2.2.1 r5.2.2.2.1 r5.2.2.2.2.1 r5.2.2.2.2.2.1 r5.2.2.2.2.2.2.1 r5.2.2.2.2.2.2.2.At.Items (Int.ofNat r5.2.2.2.2.2.2.2.At.Items.length) 0) λr4=>.h ((r4.1),(r4.2.1),(r4.2.2.1),(r4.2.2.2.1),(r4.2.2.2.2.1),(r4.2.2.2.2.2.1),(IntKind.i64.wrap (r4.2.2.2.2.2.2+1)),()) ()) .d) (.k (n_,t12,t13,t14))
def ztL (zo:yB->Bool×Int) (x:zrk) (y:Unit):=zjU zo x.1 x.2.1 x.2.2.1 x.2.2.2.1 x.2.2.2.2.1 x.2.2.2.2.2.1 x.2.2.2.2.2.2.1
def zBI (zo:yB->Bool×Int) (n:Nat) (n_:Int) (t12:yB) (t13:Int) (t14:Int) (t25:yC) (t26:Int) (t27:Int):=zB (ztL zo) default n (n_,t12,t13,t14,t25,t26,t27,()) ()
def zMe (r:zDD):LTree ty:=.done (.exit 2) [.lit (.int .i64 r.1),.sl 107 r.2.1,.lit (.int .i64 r.2.2.1),.lit (.int .i64 r.2.2.2)] []
def zPC:LL ty zrk:=za zj (za (lSl 107) (za zj (za zj (za (lSl 145) (za zj (za zj zl))))))
def zjr (zo:yB->Bool×Int) (n_:Int) (t12:yB) (t13:Int) (t14:Int):Wy zqO Unit (Int):=.i (decide (t14<t13)) (.i (decide (0<=t14)&&decide (t14<Int.ofNat t12.length)) (.bn (zBI zo ((IntKind.i64.wrap (n_+IntKind.i64.wrap (1+Int.ofNat (t12.getD t14.toNat default).Fs.length))).toNat +t12.length+t13.toNat +t14.toNat +(t12.getD t14.toNat default).Fs.length+(Int.ofNat (t12.getD t14.toNat default).Fs.length).toNat +Int.toNat 0+1) (IntKind.i64.wrap (n_+IntKind.i64.wrap (1+Int.ofNat (t12.getD t14.toNat default).Fs.length))) t12 t13 t14 (t12.getD t14.toNat default).Fs (Int.ofNat (t12.getD t14.toNat default).Fs.length) 0) λr8=>.h ((r8.1),(r8.2.1),(r8.2.2.1),(IntKind.i64.wrap (r8.2.2.2+1)),()) ()) .d) (.k n_)
def ztC (zo:yB->Bool×Int) (x:zqO) (y:Unit):=zjr zo x.1 x.2.1 x.2.2.1 x.2.2.2.1
def zAY (zo:yB->Bool×Int) (n:Nat) (n_:Int) (t12:yB) (t13:Int) (t14:Int):=zB (ztC zo) default n (n_,t12,t13,t14,()) ()
def zMn (r:Int):LTree ty:=.done (.exit 0) [.lit (.int .i64 r)] []
def zO3:LL ty zqO:=za zj (za (lSl 107) (za zj (za zj zl)))
def zLU (x:zqz) (y:Fc×Unit):Nat:=(Int.toNat x.1+x.2.2.1.length+Int.toNat x.2.2.2.1+Int.toNat x.2.2.2.2.1+x.2.2.2.2.2.1.length+Int.toNat x.2.2.2.2.2.2.1+Int.toNat x.2.2.2.2.2.2.2.1+x.2.2.2.2.2.2.2.2.1.length+Int.toNat x.2.2.2.2.2.2.2.2.2.1+Int.toNat x.2.2.2.2.2.2.2.2.2.2.1+y.1.At.Ag.length+y.1.At.Items.length+1)
def zLf (x:zqu) (y:Unit):Nat:=(Int.toNat x.1+x.2.1.length+Int.toNat x.2.2.1+Int.toNat x.2.2.2.1+x.2.2.2.2.1.length+Int.toNat x.2.2.2.2.2.1+Int.toNat x.2.2.2.2.2.2.1+x.2.2.2.2.2.2.2.1.length+Int.toNat x.2.2.2.2.2.2.2.2.1+Int.toNat x.2.2.2.2.2.2.2.2.2.1+1)
def zN0 (x:zrk) (y:Unit):Nat:=(Int.toNat x.1+x.2.1.length+Int.toNat x.2.2.1+Int.toNat x.2.2.2.1+x.2.2.2.2.1.length+Int.toNat x.2.2.2.2.2.1+Int.toNat x.2.2.2.2.2.2.1+1)
def zMk (x:zqO) (y:Unit):Nat:=(Int.toNat x.1+x.2.1.length+Int.toNat x.2.2.1+Int.toNat x.2.2.2.1+1)
def zjT (zo:yB->Bool×Int):=zbX base 62 [(160,(znc zo))] [] [(3,(kpL [3,12,13,14])),(7,(kpL [3,12,13,14,25,26,27])),(10,(kpL [3,7,12,13,14,25,26,27,33,34,35])),(15,(kpL [3,12,13,14,25,26,27,46,47,48]))] [(3,1,(kpL [3])),(7,3,(kpL [3,12,13,14])),(10,5,(kpL [3,7,12,13,14,25,26,27])),(15,7,(kpL [3,12,13,14,25,26,27]))] [(10,spW zNY zMT (zsb zo) default zLv zLU),(15,spW zMH z3q (zsq zo) default zLP zLf),(7,spW zPC z3q (ztL zo) default zMe zN0),(3,spW zO3 z3q (ztC zo) default zMn zMk)] []
theorem zL0 (zo:yB->Bool×Int):zF (zjT zo) (lp (body f160) 2):=zn (id:=10) (hl:=rfl)
theorem zKU (zo:yB->Bool×Int):zF (zjT zo) (lp (body f160) 3):=zn (id:=15) (hl:=rfl)
theorem zMy (zo:yB->Bool×Int):zF (zjT zo) (lp (body f160) 1):=zn (id:=7) (hl:=rfl)
theorem zNP (zo:yB->Bool×Int):zF (zjT zo) (lp (body f160) 0):=zn (id:=3) (hl:=rfl)
def zCx (zo:yB->Bool×Int) (a:yB):Wy0 (Int):=.bn (zAY zo (Int.toNat 0+a.length+(Int.ofNat a.length).toNat +Int.toNat 0+1) 0 a (Int.ofNat a.length) 0) λr10=>.k r10
def zrW (zo:yB->Bool×Int) (a:yB):=(zCx zo a).fin default
theorem zJQ (zo:yB->Bool×Int) (zRu:SdP 160 (znc zo)):SdP 160 (znc (zrW zo)):=
 sT (cx':=(zjT zo)) (zi ⟨zRu,trivial⟩) call160 func160 (lOK (aC (zNP zo) (aC (zMy zo) (aC (zL0 zo) (aC (zKU zo) aN)))))
def z32:Nat->(yB->Bool×Int)
 | 0=>λ_=>(false,default)
 | n+1=>zrW (z32 n)
def zj1 (n:Nat):yB->Bool×Int:=z32 n
theorem zPK (n:Nat):zj1 (n+1)=zrW (zj1 n):=rfl
theorem zZZ:∀ n,SdP 160 (znc (zj1 n))
 | 0=>z8 call160 (λ_=>rfl)
 | n+1=>by
  have ih:=zZZ n;exact zJQ _ (ih)
def zBh:yB->Bool×Int:=zj1 1000
def zBs:Ab.Spec ty:=znc zBh
theorem zM8:SdP 160 zBs:=(zZZ 1000)
abbrev zmi:=Int×Unit×Int×yB×Int×Int×yC×Int×Int×yA×Int×Int×Unit
abbrev zAb:=Int×Int×yB×Int×Int×yC×Int×Int×Fc
abbrev zmb:=Int×Int×yB×Int×Int×yC×Int×Int×yD×Int×Int×Unit
abbrev zzC:=Int×Int×yB×Int×Int×yC×Int×Int
abbrev zl0:=Int×yB×Int×Int×yC×Int×Int×Unit
abbrev zzN:=Int×yB×Int×Int
abbrev zmo:=Int×yB×Int×Int×Unit
def zg6 (zk:yB->Bool×Int) (n_:Int) (inner:Int) (t13:yB) (t14:Int) (t15:Int) (t20:yC) (t21:Int) (t22:Int) (t32:yA) (t33:Int) (t34:Int) (f:Fc):Wy zmi (Fc×Unit) zAb:=.i (decide (t34<t33)) (.i (decide (0<=t34)&&decide (t34<Int.ofNat t32.length)) (.bn (zk (t32.getD t34.toNat default)) λr0=>.h (n_,(),(if r0>inner then r0 else inner),t13,t14,t15,t20,t21,t22,t32,t33,(IntKind.i64.wrap (t34+1)),()) (f,())) .d) (.k (n_,inner,t13,t14,t15,t20,t21,t22,f))
def zo9 (zk:yB->Bool×Int) (x:zmi) (y:Fc×Unit):=zg6 zk x.1 x.2.2.1 x.2.2.2.1 x.2.2.2.2.1 x.2.2.2.2.2.1 x.2.2.2.2.2.2.1 x.2.2.2.2.2.2.2.1 x.2.2.2.2.2.2.2.2.1 x.2.2.2.2.2.2.2.2.2.1 x.2.2.2.2.2.2.2.2.2.2.1 x.2.2.2.2.2.2.2.2.2.2.2.1 y.1
def zwW (zk:yB->Bool×Int) (n:Nat) (n_:Int) (inner:Int) (t13:yB) (t14:Int) (t15:Int) (t20:yC) (t21:Int) (t22:Int) (t32:yA) (t33:Int) (t34:Int) (f:Fc):=zB (zo9 zk) default n (n_,(),inner,t13,t14,t15,t20,t21,t22,t32,t33,t34,()) (f,())
def zGI (r:zAb):LTree ty:=.done (.exit 4) [.lit (.int .i64 r.1),.ptr 256 0,.lit (.int .i64 r.2.1),.sl 107 r.2.2.1,.lit (.int .i64 r.2.2.2.1),.lit (.int .i64 r.2.2.2.2.1),.sl 145 r.2.2.2.2.2.1,.lit (.int .i64 r.2.2.2.2.2.2.1),.lit (.int .i64 r.2.2.2.2.2.2.2.1)] [.box (base.enc 145 r.2.2.2.2.2.2.2.2) false]
def zI4:LL ty zmi:=za zj (za (zdd 256 0) (za zj (za (lSl 107) (za zj (za zj (za (lSl 145) (za zj (za zj (za (lSl 51) (za zj (za zj zl)))))))))))
def zgW (zk:yB->Bool×Int) (n_:Int) (inner:Int) (t13:yB) (t14:Int) (t15:Int) (t20:yC) (t21:Int) (t22:Int) (t45:yD) (t46:Int) (t47:Int):Wy zmb Unit zzC:=.i (decide (t47<t46)) (.i (decide (0<=t47)&&decide (t47<Int.ofNat t45.length)) (.bn (zk (t45.getD t47.toNat default).Ann) λr2=>.h (n_,(if r2>inner then r2 else inner),t13,t14,t15,t20,t21,t22,t45,t46,(IntKind.i64.wrap (t47+1)),()) ()) .d) (.k (n_,inner,t13,t14,t15,t20,t21,t22))
def zoO (zk:yB->Bool×Int) (x:zmb) (y:Unit):=zgW zk x.1 x.2.1 x.2.2.1 x.2.2.2.1 x.2.2.2.2.1 x.2.2.2.2.2.1 x.2.2.2.2.2.2.1 x.2.2.2.2.2.2.2.1 x.2.2.2.2.2.2.2.2.1 x.2.2.2.2.2.2.2.2.2.1 x.2.2.2.2.2.2.2.2.2.2.1
def zwQ (zk:yB->Bool×Int) (n:Nat) (n_:Int) (inner:Int) (t13:yB) (t14:Int) (t15:Int) (t20:yC) (t21:Int) (t22:Int) (t45:yD) (t46:Int) (t47:Int):=zB (zoO zk) default n (n_,inner,t13,t14,t15,t20,t21,t22,t45,t46,t47,()) ()
def zGS (r:zzC):LTree ty:=.done (.exit 6) [.lit (.int .i64 r.1),.lit (.int .i64 r.2.1),.sl 107 r.2.2.1,.lit (.int .i64 r.2.2.2.1),.lit (.int .i64 r.2.2.2.2.1),.sl 145 r.2.2.2.2.2.1,.lit (.int .i64 r.2.2.2.2.2.2.1),.lit (.int .i64 r.2.2.2.2.2.2.2)] []
def zHL:LL ty zmb:=za zj (za zj (za (lSl 107) (za zj (za zj (za (lSl 145) (za zj (za zj (za (lSl 169) (za zj (za zj zl))))))))))
def zhK (zk:yB->Bool×Int) (n_:Int) (t13:yB) (t14:Int) (t15:Int) (t20:yC) (t21:Int) (t22:Int):Wy zl0 Unit zzN:=.i (decide (t22<t21)) (.i (decide (0<=t22)&&decide (t22<Int.ofNat t20.length)) (.i ((t20.getD t22.toNat default).At.Kind==0) (.h (n_,t13,t14,t15,t20,t21,(IntKind.i64.wrap (t22+1)),()) ()) (.bn (zwW zk (n_.toNat +Int.toNat 0+t13.length+t14.toNat +t15.toNat +t20.length+t21.toNat +t22.toNat +(t20.getD t22.toNat default).At.Ag.length+(Int.ofNat (t20.getD t22.toNat default).At.Ag.length).toNat +Int.toNat 0+(t20.getD t22.toNat default).At.Ag.length+(t20.getD t22.toNat default).At.Items.length+1) n_ 0 t13 t14 t15 t20 t21 t22 (t20.getD t22.toNat default).At.Ag (Int.ofNat (t20.getD t22.toNat default).At.Ag.length) 0 (FO.mk (At.mk (t20.getD t22.toNat default).At.Kind (t20.getD t22.toNat default).At.Row (t20.getD t22.toNat default).At.Ag (t20.getD t22.toNat default).At.Func (t20.getD t22.toNat default).At.Items (t20.getD t22.toNat default).At.Op (t20.getD t22.toNat default).At.Bd) (t20.getD t22.toNat default).Exp)) λr5=>.bn (zwQ zk (r5.1.toNat +r5.2.1.toNat +r5.2.2.1.length+r5.2.2.2.1.toNat +r5.2.2.2.2.1.toNat +r5.2.2.2.2.2.1.length+r5.2.2.2.2.2.2.1.toNat +r5.2.2.2.2.2.2.2.1.toNat +r5.2.2.2.2.2.2.2.2.At.Items.length+(Int.ofNat r5.2.2.2.2.2.2.2.2.At.Items.length).toNat +Int.toNat 0+1) r5.1 r5.2.1 r5.2.2.1 r5.2.2.2.1 r5.2.2.2.2.1 r5.2.2.2.2.2.1 r5.2.2.2.2.2.2.1 r5.2.2.2.2.2.2.2.1 r5.2.2.2.2.2.2.2.2.At.Items (Int.ofNat r5.2.2.2.2.2.2.2.2.At.Items.length) 0) λr4=>.h ((if IntKind.i64.wrap (1+r4.2.1)>r4.1 then IntKind.i64.wrap (1+r4.2.1) else r4.1),(r4.2.2.1),(r4.2.2.2.1),(r4.2.2.2.2.1),(r4.2.2.2.2.2.1),(r4.2.2.2.2.2.2.1),(IntKind.i64.wrap (r4.2.2.2.2.2.2.2+1)),()) ())) .d) (.k (n_,t13,t14,t15))
def zqc (zk:yB->Bool×Int) (x:zl0) (y:Unit):=zhK zk x.1 x.2.1 x.2.2.1 x.2.2.2.1 x.2.2.2.2.1 x.2.2.2.2.2.1 x.2.2.2.2.2.2.1
def zxx (zk:yB->Bool×Int) (n:Nat) (n_:Int) (t13:yB) (t14:Int) (t15:Int) (t20:yC) (t21:Int) (t22:Int):=zB (zqc zk) default n (n_,t13,t14,t15,t20,t21,t22,()) ()
def zIa (r:zzN):LTree ty:=.done (.exit 2) [.lit (.int .i64 r.1),.sl 107 r.2.1,.lit (.int .i64 r.2.2.1),.lit (.int .i64 r.2.2.2)] []
def zJo:LL ty zl0:=za zj (za (lSl 107) (za zj (za zj (za (lSl 145) (za zj (za zj zl))))))
def zhP (zk:yB->Bool×Int) (n_:Int) (t13:yB) (t14:Int) (t15:Int):Wy zmo Unit (Int):=.i (decide (t15<t14)) (.i (decide (0<=t15)&&decide (t15<Int.ofNat t13.length)) (.bn (zxx zk (n_.toNat +t13.length+t14.toNat +t15.toNat +(t13.getD t15.toNat default).Fs.length+(Int.ofNat (t13.getD t15.toNat default).Fs.length).toNat +Int.toNat 0+1) n_ t13 t14 t15 (t13.getD t15.toNat default).Fs (Int.ofNat (t13.getD t15.toNat default).Fs.length) 0) λr8=>.h ((r8.1),(r8.2.1),(r8.2.2.1),(IntKind.i64.wrap (r8.2.2.2+1)),()) ()) .d) (.k n_)
def zqh (zk:yB->Bool×Int) (x:zmo) (y:Unit):=zhP zk x.1 x.2.1 x.2.2.1 x.2.2.2.1
def zxv (zk:yB->Bool×Int) (n:Nat) (n_:Int) (t13:yB) (t14:Int) (t15:Int):=zB (zqh zk) default n (n_,t13,t14,t15,()) ()
def zJV:LL ty zmo:=za zj (za (lSl 107) (za zj (za zj zl)))
def zGG (x:zmi) (y:Fc×Unit):Nat:=(Int.toNat x.1+Int.toNat x.2.2.1+x.2.2.2.1.length+Int.toNat x.2.2.2.2.1+Int.toNat x.2.2.2.2.2.1+x.2.2.2.2.2.2.1.length+Int.toNat x.2.2.2.2.2.2.2.1+Int.toNat x.2.2.2.2.2.2.2.2.1+x.2.2.2.2.2.2.2.2.2.1.length+Int.toNat x.2.2.2.2.2.2.2.2.2.2.1+Int.toNat x.2.2.2.2.2.2.2.2.2.2.2.1+y.1.At.Ag.length+y.1.At.Items.length+1)
def zG4 (x:zmb) (y:Unit):Nat:=(Int.toNat x.1+Int.toNat x.2.1+x.2.2.1.length+Int.toNat x.2.2.2.1+Int.toNat x.2.2.2.2.1+x.2.2.2.2.2.1.length+Int.toNat x.2.2.2.2.2.2.1+Int.toNat x.2.2.2.2.2.2.2.1+x.2.2.2.2.2.2.2.2.1.length+Int.toNat x.2.2.2.2.2.2.2.2.2.1+Int.toNat x.2.2.2.2.2.2.2.2.2.2.1+1)
def zIJ (x:zl0) (y:Unit):Nat:=(Int.toNat x.1+x.2.1.length+Int.toNat x.2.2.1+Int.toNat x.2.2.2.1+x.2.2.2.2.1.length+Int.toNat x.2.2.2.2.2.1+Int.toNat x.2.2.2.2.2.2.1+1)
def zHJ (x:zmo) (y:Unit):Nat:=(Int.toNat x.1+x.2.1.length+Int.toNat x.2.2.1+Int.toNat x.2.2.2.1+1)
def zhN (zk:yB->Bool×Int):=zbX base 64 [(159,(znc zk))] [] [(3,(kpL [3,13,14,15])),(6,(kpL [3,13,14,15,20,21,22])),(11,(kpL [3,7,8,13,14,15,20,21,22,32,33,34])),(16,(kpL [3,8,13,14,15,20,21,22,45,46,47]))] [(3,1,(kpL [3])),(6,3,(kpL [3,13,14,15])),(11,5,(kpL [3,7,8,13,14,15,20,21,22])),(16,7,(kpL [3,8,13,14,15,20,21,22]))] [(11,spW zI4 zMT (zo9 zk) default zGI zGG),(16,spW zHL z3q (zoO zk) default zGS zG4),(6,spW zJo z3q (zqc zk) default zIa zIJ),(3,spW zJV z3q (zqh zk) default zMn zHJ)] []
theorem zGZ (zk:yB->Bool×Int):zF (zhN zk) (lp (body f159) 2):=zn (id:=11) (hl:=rfl)
theorem zHi (zk:yB->Bool×Int):zF (zhN zk) (lp (body f159) 3):=zn (id:=16) (hl:=rfl)
theorem zIR (zk:yB->Bool×Int):zF (zhN zk) (lp (body f159) 1):=zn (id:=6) (hl:=rfl)
theorem zH7 (zk:yB->Bool×Int):zF (zhN zk) (lp (body f159) 0):=zn (id:=3) (hl:=rfl)
def zyx (zk:yB->Bool×Int) (a:yB):Wy0 (Int):=.bn (zxv zk (Int.toNat 0+a.length+(Int.ofNat a.length).toNat +Int.toNat 0+1) 0 a (Int.ofNat a.length) 0) λr10=>.k r10
def znG (zk:yB->Bool×Int) (a:yB):=(zyx zk a).fin default
theorem zFP (zk:yB->Bool×Int) (zLn:SdP 159 (znc zk)):SdP 159 (znc (znG zk)):=
 sT (cx':=(zhN zk)) (zi ⟨zLn,trivial⟩) call159 func159 (lOK (aC (zH7 zk) (aC (zIR zk) (aC (zGZ zk) (aC (zHi zk) aN)))))
def zWB:Nat->(yB->Bool×Int)
 | 0=>λ_=>(false,default)
 | n+1=>znG (zWB n)
def zfx (n:Nat):yB->Bool×Int:=zWB n
theorem zJi (n:Nat):zfx (n+1)=znG (zfx n):=rfl
theorem zQe:∀ n,SdP 159 (znc (zfx n))
 | 0=>z8 call159 (λ_=>rfl)
 | n+1=>by
  have ih:=zQe n;exact zFP _ (ih)
def zwK:yB->Bool×Int:=zfx 1000
def zxu:Ab.Spec ty:=znc zwK
theorem zH9:SdP 159 zxu:=(zQe 1000)
def zE4:=zbu base 13 []
def zvy (f:Fc):Wy0 (Bool):=.i (decide (f.Exp>64)) (.k true) (.k (decide (Int.ofNat f.At.Items.length>1024)))
def zfr (f:Fc):=(zvy f).fin default
def zGF:AL base (Fc×Unit):=zd (zg (zcb 145)) zq
def zhD:=zh zGF λx=>((zfr x.1).1,zQK (zfr x.1).2)
theorem zkf:SdP 164 zhD:=
 sT (cx':=zE4) (zi trivial) call164 func164 (lOK aN)
abbrev zdB:=yC×Unit×Int×Int×Unit
def zig (s:yC) (t7:Int) (t8:Int):Wy zdB Unit (Int⊕Unit):=.i (decide (t8<t7)) (.i (decide (0<=t8)&&decide (t8<Int.ofNat s.length)) (.bn (zfr (FO.mk (At.mk (s.getD t8.toNat default).At.Kind (s.getD t8.toNat default).At.Row (s.getD t8.toNat default).At.Ag (s.getD t8.toNat default).At.Func (s.getD t8.toNat default).At.Items (s.getD t8.toNat default).At.Op (s.getD t8.toNat default).At.Bd) (s.getD t8.toNat default).Exp)) λr0=>.i (r0) (.k (.inl t8)) (.h (s,(),t7,(IntKind.i64.wrap (t8+1)),()) ())) .d) (.k (.inr ()))
def zc4 (x:zdB) (y:Unit):=zig x.1 x.2.2.1 x.2.2.2.1
def zik (n:Nat) (s:yC) (t7:Int) (t8:Int):=zB (zc4) (.inl default) n (s,(),t7,t8,()) ()
def zp5 (r:Int⊕Unit):LTree ty:=.ite (isL r) (.done .ret [.lit (.int .i64 (getL r))] []) (.done (.exit 0) [] [])
def zqx:LL ty zdB:=za (lSl 145) (za (lFn 164 (zl)) (za zj (za zj zl)))
def zqf (x:zdB) (y:Unit):Nat:=(x.1.length+Int.toNat x.2.2.1+Int.toNat x.2.2.2.1+1)
def zim:=zbX base 19 [(164,zhD)] [] [(2,(kpL [0,1,7,8]))] [(2,1,[]),(2,0,(kpL [4]))] [(2,spW zqx z3q (zc4) (.inl default) zp5 zqf)] []
theorem zp1:zF zim (lp (body f222) 0):=zn (id:=2) (hl:=rfl)
def zio (s:yC):Wy0 (Int):=.bn (zik (s.length+(Int.ofNat s.length).toNat +Int.toNat 0+1) s (Int.ofNat s.length) 0) λr2=>.i (isL r2) (.k (getL r2)) (.k (-1:Int))
def zcD (s:yC):=(zio s).fin default
def zrC:AL base (yC×Unit×Unit):=zd (zg (vSl 145)) (zd (zg (vFn 164 zcR)) zq)
def zht:=zh zrC λx=>((zcD x.1).1,zLH (zcD x.1).2)
theorem zo1:SdP 222 zht:=
 sT (cx':=zim) (zi ⟨zkf,trivial⟩) call222 func222 (lOK (aC zp1 aN))
def zoV:=zbu base 9 [(164,zhD),(222,zht)]
def zhq (s:yC):Wy0 (Bool):=.bn (zcD s) λr0=>.k (decide (r0≥0))
def zcn (s:yC):=(zhq s).fin default
def zgv:=zh zrC λx=>((zcn x.1).1,zQK (zcn x.1).2)
theorem zm9:SdP 163 zgv:=
 sT (cx':=zoV) (zi ⟨zkf,zo1,trivial⟩) call163 func163 (lOK aN)
def zJF:=zbu base 12 [(163,zgv),(164,zhD)]
def zyt (t:Term):Wy0 (Bool):=.i (decide (Int.ofNat t.Fs.length>64)) (.k true) (.bn (zcn t.Fs) λr0=>.k r0)
def zjN (t:Term):=(zyt t).fin default
def zK8:AL base (Term×Unit):=zd (zg (zcb 107)) zq
def zjf:=zh zK8 λx=>((zjN x.1).1,zQK (zjN x.1).2)
theorem zmE:SdP 162 zjf:=
 sT (cx':=zJF) (zi ⟨zm9,zkf,trivial⟩) call162 func162 (lOK aN)
abbrev zdy:=yB×Unit×Int×Int×Unit
def zpY (s:yB) (t7:Int) (t8:Int):Wy zdy Unit (Int⊕Unit):=.i (decide (t8<t7)) (.i (decide (0<=t8)&&decide (t8<Int.ofNat s.length)) (.bn (zjN (s.getD t8.toNat default)) λr0=>.i (r0) (.k (.inl t8)) (.h (s,(),t7,(IntKind.i64.wrap (t8+1)),()) ())) .d) (.k (.inr ()))
def zhT (x:zdy) (y:Unit):=zpY x.1 x.2.2.1 x.2.2.2.1
def zpZ (n:Nat) (s:yB) (t7:Int) (t8:Int):=zB (zhT) (.inl default) n (s,(),t7,t8,()) ()
def zp2:LL ty zdy:=za (lSl 107) (za (lFn 162 (zl)) (za zj (za zj zl)))
def zpE (x:zdy) (y:Unit):Nat:=(x.1.length+Int.toNat x.2.2.1+Int.toNat x.2.2.2.1+1)
def zhM:=zbX base 19 [(162,zjf)] [] [(2,(kpL [0,1,7,8]))] [(2,1,[]),(2,0,(kpL [4]))] [(2,spW zp2 z3q (zhT) (.inl default) zp5 zpE)] []
theorem zpF:zF zhM (lp (body f221) 0):=zn (id:=2) (hl:=rfl)
def zqs (s:yB):Wy0 (Int):=.bn (zpZ (s.length+(Int.ofNat s.length).toNat +Int.toNat 0+1) s (Int.ofNat s.length) 0) λr2=>.i (isL r2) (.k (getL r2)) (.k (-1:Int))
def zdg (s:yB):=(zqs s).fin default
def zqq:AL base (yB×Unit×Unit):=zd (zg (vSl 107)) (zd (zg (vFn 162 zcR)) zq)
def zg4:=zh zqq λx=>((zdg x.1).1,zLH (zdg x.1).2)
theorem zoG:SdP 221 zg4:=
 sT (cx':=zhM) (zi ⟨zmE,trivial⟩) call221 func221 (lOK (aC zpF aN))
def zoF:=zbu base 9 [(162,zjf),(221,zg4)]
def zgY (s:yB):Wy0 (Bool):=.bn (zdg s) λr0=>.k (decide (r0≥0))
def zcg (s:yB):=(zgY s).fin default
def zge:=zh zqq λx=>((zcg x.1).1,zQK (zcg x.1).2)
theorem zmx:SdP 161 zge:=
 sT (cx':=zoF) (zi ⟨zmE,zoG,trivial⟩) call161 func161 (lOK aN)
def zOa:=zbu base 19 [(159,zxu),(160,zBs),(161,zge),(162,zjf)]
def zCm (a:yB):Wy0 (Bool):=.i (decide (Int.ofNat a.length>512)) (.k false) (.bn (zwK a) λr2=>.i (decide (r2>8)) (.k false) (.bn (zBh a) λr1=>.i (decide (r1>4096)) (.k false) (.bn (zcg a) λr0=>.k (!r0))))
def zj2 (a:yB):=(zCm a).fin default
def zrx:=zh zSC λx=>((zj2 x.1).1,zQK (zj2 x.1).2)
theorem zxE:SdP 103 zrx:=
 sT (cx':=zOa) (zi ⟨zH9,zM8,zmx,zmE,trivial⟩) call103 func103 (lOK aN)
abbrev zpu:=yB×Unit×yB×Int×Int×yC×Int×Int×Unit
abbrev zCf:=Bool⊕(yB×yB×Int×Int)
abbrev zpt:=yB×yB×Int×Int×Unit
def ziS (zx:At->Bool×Bool) (a:yB) (t10:yB) (t11:Int) (t12:Int) (t40:yC) (t41:Int) (t42:Int) (t:Term):Wy zpu (Term×Unit) zCf:=.i (decide (t42<t41)) (.i (decide (0<=t42)&&decide (t42<Int.ofNat t40.length)) (.i (decide ((t40.getD t42.toNat default).Exp<1)) (.k (.inl false)) (.bn (zeX (At.mk (t40.getD t42.toNat default).At.Kind (t40.getD t42.toNat default).At.Row (t40.getD t42.toNat default).At.Ag (t40.getD t42.toNat default).At.Func (t40.getD t42.toNat default).At.Items (t40.getD t42.toNat default).At.Op (t40.getD t42.toNat default).At.Bd)) λr6=>.i (r6) (.i ((t40.getD t42.toNat default).Exp != 1) (.k (.inl false)) (.i (decide (t42>0)) (.i (decide (0<=IntKind.i64.wrap (t42 - 1))&&decide (IntKind.i64.wrap (t42 - 1)<Int.ofNat t.Fs.length)) (.bn (zhS (At.mk (t.Fs.getD (IntKind.i64.wrap (t42 - 1)).toNat default).At.Kind (t.Fs.getD (IntKind.i64.wrap (t42 - 1)).toNat default).At.Row (t.Fs.getD (IntKind.i64.wrap (t42 - 1)).toNat default).At.Ag (t.Fs.getD (IntKind.i64.wrap (t42 - 1)).toNat default).At.Func (t.Fs.getD (IntKind.i64.wrap (t42 - 1)).toNat default).At.Items (t.Fs.getD (IntKind.i64.wrap (t42 - 1)).toNat default).At.Op (t.Fs.getD (IntKind.i64.wrap (t42 - 1)).toNat default).At.Bd) (At.mk (t40.getD t42.toNat default).At.Kind (t40.getD t42.toNat default).At.Row (t40.getD t42.toNat default).At.Ag (t40.getD t42.toNat default).At.Func (t40.getD t42.toNat default).At.Items (t40.getD t42.toNat default).At.Op (t40.getD t42.toNat default).At.Bd)) λr1=>.i (decide (r1≥0)) (.k (.inl false)) (.bn (zx (At.mk (t40.getD t42.toNat default).At.Kind (t40.getD t42.toNat default).At.Row (t40.getD t42.toNat default).At.Ag (t40.getD t42.toNat default).At.Func (t40.getD t42.toNat default).At.Items (t40.getD t42.toNat default).At.Op (t40.getD t42.toNat default).At.Bd)) λr0=>.i (!r0) (.k (.inl false)) (.h (a,(),t10,t11,t12,t40,t41,(IntKind.i64.wrap (t42+1)),()) (t,())))) .d) (.bn (zx (At.mk (t40.getD t42.toNat default).At.Kind (t40.getD t42.toNat default).At.Row (t40.getD t42.toNat default).At.Ag (t40.getD t42.toNat default).At.Func (t40.getD t42.toNat default).At.Items (t40.getD t42.toNat default).At.Op (t40.getD t42.toNat default).At.Bd)) λr2=>.i (!r2) (.k (.inl false)) (.h (a,(),t10,t11,t12,t40,t41,(IntKind.i64.wrap (t42+1)),()) (t,()))))) (.i (decide (t42>0)) (.i (decide (0<=IntKind.i64.wrap (t42 - 1))&&decide (IntKind.i64.wrap (t42 - 1)<Int.ofNat t.Fs.length)) (.bn (zhS (At.mk (t.Fs.getD (IntKind.i64.wrap (t42 - 1)).toNat default).At.Kind (t.Fs.getD (IntKind.i64.wrap (t42 - 1)).toNat default).At.Row (t.Fs.getD (IntKind.i64.wrap (t42 - 1)).toNat default).At.Ag (t.Fs.getD (IntKind.i64.wrap (t42 - 1)).toNat default).At.Func (t.Fs.getD (IntKind.i64.wrap (t42 - 1)).toNat default).At.Items (t.Fs.getD (IntKind.i64.wrap (t42 - 1)).toNat default).At.Op (t.Fs.getD (IntKind.i64.wrap (t42 - 1)).toNat default).At.Bd) (At.mk (t40.getD t42.toNat default).At.Kind (t40.getD t42.toNat default).At.Row (t40.getD t42.toNat default).At.Ag (t40.getD t42.toNat default).At.Func (t40.getD t42.toNat default).At.Items (t40.getD t42.toNat default).At.Op (t40.getD t42.toNat default).At.Bd)) λr4=>.i (decide (r4≥0)) (.k (.inl false)) (.bn (zx (At.mk (t40.getD t42.toNat default).At.Kind (t40.getD t42.toNat default).At.Row (t40.getD t42.toNat default).At.Ag (t40.getD t42.toNat default).At.Func (t40.getD t42.toNat default).At.Items (t40.getD t42.toNat default).At.Op (t40.getD t42.toNat default).At.Bd)) λr3=>.i (!r3) (.k (.inl false)) (.h (a,(),t10,t11,t12,t40,t41,(IntKind.i64.wrap (t42+1)),()) (t,())))) .d) (.bn (zx (At.mk (t40.getD t42.toNat default).At.Kind (t40.getD t42.toNat default).At.Row (t40.getD t42.toNat default).At.Ag (t40.getD t42.toNat default).At.Func (t40.getD t42.toNat default).At.Items (t40.getD t42.toNat default).At.Op (t40.getD t42.toNat default).At.Bd)) λr5=>.i (!r5) (.k (.inl false)) (.h (a,(),t10,t11,t12,t40,t41,(IntKind.i64.wrap (t42+1)),()) (t,())))))) .d) (.k (.inr (a,t10,t11,t12)))
def zsd (zx:At->Bool×Bool) (x:zpu) (y:Term×Unit):=ziS zx x.1 x.2.2.1 x.2.2.2.1 x.2.2.2.2.1 x.2.2.2.2.2.1 x.2.2.2.2.2.2.1 x.2.2.2.2.2.2.2.1 y.1
def zsv (zx:At->Bool×Bool) (n:Nat) (a:yB) (t10:yB) (t11:Int) (t12:Int) (t40:yC) (t41:Int) (t42:Int) (t:Term):=zB (zsd zx) (.inl default) n (a,(),t10,t11,t12,t40,t41,t42,()) (t,())
def zLR (r:zCf):LTree ty:=.ite (isL r) (.done .ret [.lit (.bool (getL r))] []) (.done (.exit 2) [.sl 107 (getR r).1,.sl 107 (getR r).2.1,.lit (.int .i64 (getR r).2.2.1),.lit (.int .i64 (getR r).2.2.2)] [])
def zMp:LL ty zpu:=za (lSl 107) (za (zdd 340 0) (za (lSl 107) (za zj (za zj (za (lSl 145) (za zj (za zj zl)))))))
def zNy:BL ty (Term×Unit):=zeq (zdO (λx=>(⟨x.1,x.2.1⟩:Term)) (λx=>(x.Cf,x.Fs,())) (λ_=>rfl) (za (zO .i64) (za (lSl 145) zl))) false (zbb)
def ziW (zx:At->Bool×Bool) (a:yB) (t10:yB) (t11:Int) (t12:Int):Wy zpt Unit (Bool⊕Unit):=.i (decide (t12<t11)) (.i (decide (0<=t12)&&decide (t12<Int.ofNat t10.length)) (.i (decide ((t10.getD t12.toNat default).Cf<1)) (.k (.inl false)) (.i (decide ((t10.getD t12.toNat default).Cf>1152921504606846976)) (.k (.inl false)) (.i (decide (t12>0)) (.i (decide (0<=IntKind.i64.wrap (t12 - 1))&&decide (IntKind.i64.wrap (t12 - 1)<Int.ofNat a.length)) (.bn (zcf (a.getD (IntKind.i64.wrap (t12 - 1)).toNat default) (t10.getD t12.toNat default)) λr15=>.i (decide (r15≥0)) (.k (.inl false)) (.bn (zsv zx (a.length+t10.length+t11.toNat +t12.toNat +(t10.getD t12.toNat default).Fs.length+(Int.ofNat (t10.getD t12.toNat default).Fs.length).toNat +Int.toNat 0+(t10.getD t12.toNat default).Fs.length+1) a t10 t11 t12 (t10.getD t12.toNat default).Fs (Int.ofNat (t10.getD t12.toNat default).Fs.length) 0 (t10.getD t12.toNat default)) λr14=>.i (isL r14) (.k (.inl (getL r14))) (.h ((getR r14).1,(getR r14).2.1,(getR r14).2.2.1,(IntKind.i64.wrap ((getR r14).2.2.2+1)),()) ()))) .d) (.bn (zsv zx (a.length+t10.length+t11.toNat +t12.toNat +(t10.getD t12.toNat default).Fs.length+(Int.ofNat (t10.getD t12.toNat default).Fs.length).toNat +Int.toNat 0+(t10.getD t12.toNat default).Fs.length+1) a t10 t11 t12 (t10.getD t12.toNat default).Fs (Int.ofNat (t10.getD t12.toNat default).Fs.length) 0 (t10.getD t12.toNat default)) λr16=>.i (isL r16) (.k (.inl (getL r16))) (.h ((getR r16).1,(getR r16).2.1,(getR r16).2.2.1,(IntKind.i64.wrap ((getR r16).2.2.2+1)),()) ()))))) .d) (.k (.inr ()))
def zsk (zx:At->Bool×Bool) (x:zpt) (y:Unit):=ziW zx x.1 x.2.1 x.2.2.1 x.2.2.2.1
def zzY (zx:At->Bool×Bool) (n:Nat) (a:yB) (t10:yB) (t11:Int) (t12:Int):=zB (zsk zx) (.inl default) n (a,t10,t11,t12,()) ()
def zNp:LL ty zpt:=za (lSl 107) (za (lSl 107) (za zj (za zj zl)))
def zLe (x:zpu) (y:Term×Unit):Nat:=(x.1.length+x.2.2.1.length+Int.toNat x.2.2.2.1+Int.toNat x.2.2.2.2.1+x.2.2.2.2.2.1.length+Int.toNat x.2.2.2.2.2.2.1+Int.toNat x.2.2.2.2.2.2.2.1+y.1.Fs.length+1)
def zLI (x:zpt) (y:Unit):Nat:=(x.1.length+x.2.1.length+Int.toNat x.2.2.1+Int.toNat x.2.2.2.1+1)
def zr4 (zx:At->Bool×Bool):=zbX base 85 [(103,zrx),(104,zhH),(105,ziG),(106,zkT),(107,(zlf zx))] [] [(4,(kpL [0,10,11,12])),(9,(kpL [0,4,10,11,12,40,41,42]))] [(4,1,[]),(4,0,(kpL [2])),(9,3,(kpL [0,10,11,12])),(9,0,(kpL [2]))] [(9,spW zMp zNy (zsd zx) (.inl default) zLR zLe),(4,spW zNp z3q (zsk zx) (.inl default) zlC zLI)] []
theorem zL3 (zx:At->Bool×Bool):zF (zr4 zx) (lp (body f52) 1):=zn (id:=9) (hl:=rfl)
theorem zLF (zx:At->Bool×Bool):zF (zr4 zx) (lp (body f52) 0):=zn (id:=4) (hl:=rfl)
def zBv (zx:At->Bool×Bool) (a:yB):Wy0 (Bool):=.bn (zj2 a) λr21=>.i (!r21) (.k false) (.bn (zzY zx (a.length+a.length+(Int.ofNat a.length).toNat +Int.toNat 0+1) a a (Int.ofNat a.length) 0) λr20=>.i (isL r20) (.k (getL r20)) (.k true))
def zlj (zx:At->Bool×Bool) (a:yB):=(zBv zx a).fin default
theorem zIP (zx:At->Bool×Bool) (zHI:SdP 107 (zlf zx)):SdP 52 (zhc (zlj zx)):=
 sT (cx':=(zr4 zx)) (zi ⟨zxE,zkl,zlK,zrH,zHI,trivial⟩) call52 func52 (lOK (aC (zLF zx) (aC (zL3 zx) aN)))
def z0W:=zbu base 36 []
def zQp (v:Value):Wy0 (Bool):=.i (v.Kind==0) (.k (v.Text.toList==(ByteArray.mk #[]).toList)) (.i (v.Kind==1) (.i (v.Int==0) (.k (decide (Int.ofNat v.Text.size<=255))) (.k false)) (.i (v.Kind==2) (.i (v.Int==0) (.k (v.Text.toList==(ByteArray.mk #[]).toList)) (.i (v.Int==1) (.k (v.Text.toList==(ByteArray.mk #[]).toList)) (.k false))) (.k false)))
def zoc (v:Value):=(zQp v).fin default
def z2W:AL base (Value×Unit):=zd (zg (zcb 79)) zq
def zoS:=zh z2W λx=>((zoc x.1).1,zQK (zoc x.1).2)
theorem zrU:SdP 91 zoS:=
 sT (cx':=z0W) (zi trivial) call91 func91 (lOK aN)
def zIS:=zbu base 27 [(91,zoS)]
def zxA (w:Wd) (p1:Value) (p2:Int):Wy0 (Bool):=.bn (zoc w.Value) λr0=>.i (!r0) (.k true) (.i (w.Value.Kind != p1.Kind) (.k true) (.i (p2==0) (.k (w.Value.Int != 1)) (.k false)))
def zgN (w:Wd) (p1:Value) (p2:Int):=(zxA w p1 p2).fin default
def zJ0:AL base (Wd×Value×(Int×Unit)×Unit):=zd (zg (zcb 169)) (zd (zg (zZx 79)) (zd (zg (z0N (zw5 zgm zcR))) zq))
def ziD:=zh zJ0 λx=>((zgN x.1 x.2.1 x.2.2.1.1).1,zQK (zgN x.1 x.2.1 x.2.2.1.1).2)
theorem zln:SdP 229 ziD:=
 sT (cx':=zIS) (zi ⟨zrU,trivial⟩) call229 func229 (lOK aN)
abbrev zdc:=yD×(Value×(Int×Unit)×Unit)×Int×Int×Unit
def zon (s:yD) (f_0:Value) (f_1:Int) (t7:Int) (t8:Int):Wy zdc Unit (Int⊕Unit):=.i (decide (t8<t7)) (.i (decide (0<=t8)&&decide (t8<Int.ofNat s.length)) (.bn (zgN (s.getD t8.toNat default) f_0 f_1) λr0=>.i (r0) (.k (.inl t8)) (.h (s,(f_0,(f_1,()),()),t7,(IntKind.i64.wrap (t8+1)),()) ())) .d) (.k (.inr ()))
def zgG (x:zdc) (y:Unit):=zon x.1 x.2.1.1 x.2.1.2.1.1 x.2.2.1 x.2.2.2.1
def zok (n:Nat) (s:yD) (f_0:Value) (f_1:Int) (t7:Int) (t8:Int):=zB (zgG) (.inl default) n (s,(f_0,(f_1,()),()),t7,t8,()) ()
def zov:LL ty zdc:=za (lSl 169) (za (lFn 229 (za (zEu (zdO (λx=>(⟨x.1,x.2.1,x.2.2.1⟩:Value)) (λx=>(x.Kind,x.Int,x.Text,())) (λ_=>rfl) (za zj (za zj (za zjj zl)))) 0) (za (zEu (za zj zl) 0) zl))) (za zj (za zj zl)))
def znM (x:zdc) (y:Unit):Nat:=(x.1.length+Int.toNat x.2.1.2.1.1+Int.toNat x.2.2.1+Int.toNat x.2.2.2.1+1)
def zgI:=zbX base 19 [(229,ziD)] [] [(2,(kpL [0,1,7,8]))] [(2,1,[]),(2,0,(kpL [4]))] [(2,spW zov z3q (zgG) (.inl default) zp5 znM)] []
theorem znC:zF zgI (lp (body f228) 0):=zn (id:=2) (hl:=rfl)
def zoZ (s:yD) (f_0:Value) (f_1:Int):Wy0 (Int):=.bn (zok (s.length+f_1.toNat +(Int.ofNat s.length).toNat +Int.toNat 0+1) s f_0 f_1 (Int.ofNat s.length) 0) λr2=>.i (isL r2) (.k (getL r2)) (.k (-1:Int))
def zcU (s:yD) (f_0:Value) (f_1:Int):=(zoZ s f_0 f_1).fin default
def zpb:AL base (yD×(Value×(Int×Unit)×Unit)×Unit):=zd (zg (vSl 169)) (zd (zg (vFn 229 (zw5 (zZx 79) (zw5 (z0N (zw5 zgm zcR)) zcR)))) zq)
def zgb:=zh zpb λx=>((zcU x.1 x.2.1.1 x.2.1.2.1.1).1,zLH (zcU x.1 x.2.1.1 x.2.1.2.1.1).2)
theorem zmw:SdP 228 zgb:=
 sT (cx':=zgI) (zi ⟨zln,trivial⟩) call228 func228 (lOK (aC znC aN))
def zmB:=zbu base 9 [(228,zgb),(229,ziD)]
def zgc (s:yD) (f_0:Value) (f_1:Int):Wy0 (Bool):=.bn (zcU s f_0 f_1) λr0=>.k (decide (r0≥0))
def zbn (s:yD) (f_0:Value) (f_1:Int):=(zgc s f_0 f_1).fin default
def zfk:=zh zpb λx=>((zbn x.1 x.2.1.1 x.2.1.2.1.1).1,zQK (zbn x.1 x.2.1.1 x.2.1.2.1.1).2)
theorem zk3:SdP 178 zfk:=
 sT (cx':=zmB) (zi ⟨zmw,zln,trivial⟩) call178 func178 (lOK aN)
def zMN:=zbu base 43 [(91,zoS),(178,zfk),(229,ziD)]
def zA0 (fn:Int) (items:yD) (op:Int) (bound:Value):Wy0 (Bool):=.i (decide (fn<0)) (.k false) (.i (decide (fn>3)) (.k false) (.i (decide (op<5)) (.k false) (.i (decide (op>10)) (.k false) (.bn (zoc bound) λr3=>.i (!r3) (.k false) (.i (fn==0) (.i (bound.Kind != 0) (.k false) (.bn (zbn items bound fn) λr0=>.k (!r0))) (.i (fn==1) (.i (bound.Kind != 0) (.k false) (.bn (zbn items bound fn) λr1=>.k (!r1))) (.bn (zbn items bound fn) λr2=>.k (!r2))))))))
def zi0 (fn:Int) (items:yD) (op:Int) (bound:Value):=(zA0 fn items op bound).fin default
def zOY:AL base (Int×yD×Int×Value×Unit):=zd (zg zgm) (zd (zg (vSl 169)) (zd (zg zgm) (zd (zg (zcb 79)) zq)))
def zp8:=zh zOY λx=>((zi0 x.1 x.2.1 x.2.2.1 x.2.2.2.1).1,zQK (zi0 x.1 x.2.1 x.2.2.1 x.2.2.2.1).2)
theorem zwE:SdP 181 zp8:=
 sT (cx':=zMN) (zi ⟨zrU,zk3,zln,trivial⟩) call181 func181 (lOK aN)
def zC3:=zbu base 7 []
def zs6 (t:Term):Wy0 (Bool):=.k (Int.ofNat t.Fs.length==0)
def zgn (t:Term):=(zs6 t).fin default
def zgt:=zh zK8 λx=>((zgn x.1).1,zQK (zgn x.1).2)
theorem zjh:SdP 227 zgt:=
 sT (cx':=zC3) (zi trivial) call227 func227 (lOK aN)
abbrev zdx:=yB×Unit×Int×Int×Unit
def zpR (s:yB) (t7:Int) (t8:Int):Wy zdx Unit (Int⊕Unit):=.i (decide (t8<t7)) (.i (decide (0<=t8)&&decide (t8<Int.ofNat s.length)) (.i ((zgn (s.getD t8.toNat default)).2) (.k (.inl t8)) (.h (s,(),t7,(IntKind.i64.wrap (t8+1)),()) ())) .d) (.k (.inr ()))
def zhU (x:zdx) (y:Unit):=zpR x.1 x.2.2.1 x.2.2.2.1
def zqb (n:Nat) (s:yB) (t7:Int) (t8:Int):=zB (zhU) (.inl default) n (s,(),t7,t8,()) ()
def zqe:LL ty zdx:=za (lSl 107) (za (lFn 227 (zl)) (za zj (za zj zl)))
def zpA (x:zdx) (y:Unit):Nat:=(x.1.length+Int.toNat x.2.2.1+Int.toNat x.2.2.2.1+1)
def zhQ:=zbX base 19 [(227,zgt)] [] [(2,(kpL [0,1,7,8]))] [(2,1,[]),(2,0,(kpL [4]))] [(2,spW zqe z3q (zhU) (.inl default) zp5 zpA)] []
theorem zpN:zF zhQ (lp (body f221) 0):=zn (id:=2) (hl:=rfl)
def zqp (s:yB):Wy0 (Int):=.bn (zqb (s.length+(Int.ofNat s.length).toNat +Int.toNat 0+1) s (Int.ofNat s.length) 0) λr0=>.i (isL r0) (.k (getL r0)) (.k (-1:Int))
def zdh (s:yB):=(zqp s).fin default
def zqP:AL base (yB×Unit×Unit):=zd (zg (vSl 107)) (zd (zg (vFn 227 zcR)) zq)
def zhb:=zh zqP λx=>((zdh x.1).1,zLH (zdh x.1).2)
theorem zoi:SdP 221 zhb:=
 sT (cx':=zhQ) (zi ⟨zjh,trivial⟩) call221 func221 (lOK (aC zpN aN))
def zoq:=zbu base 9 [(221,zhb),(227,zgt)]
def zg2 (s:yB):Wy0 (Bool):=.bn (zdh s) λr0=>.k (decide (r0≥0))
def zcY (s:yB):=(zg2 s).fin default
def zf6:=zh zqP λx=>((zcY x.1).1,zQK (zcY x.1).2)
theorem zmF:SdP 161 zf6:=
 sT (cx':=zoq) (zi ⟨zoi,zjh,trivial⟩) call161 func161 (lOK aN)
def zHj:=zbu base 5 [(161,zf6),(227,zgt)]
def zwX (a:yB):Wy0 (Bool):=.bn (zcY a) λr0=>.k r0
def zeo (a:yB):=(zwX a).fin default
def zlv:=zh zSC λx=>((zeo x.1).1,zQK (zeo x.1).2)
theorem zsl:SdP 177 zlv:=
 sT (cx':=zHj) (zi ⟨zmF,zjh,trivial⟩) call177 func177 (lOK aN)
def zIi:=zbu base 14 []
def zxB (a:yB):Wy0 (Bool):=.i (Int.ofNat a.length==1) (.i (decide ((0:Int)<=(0:Int))&&decide (0<Int.ofNat a.length)) (.k (Int.ofNat (a.getD (Int.toNat 0) default).Fs.length==0)) .d) (.k false)
def zgP (a:yB):=(zxB a).fin default
def zmr:=zh zSC λx=>((zgP x.1).1,zQK (zgP x.1).2)
theorem ztg:SdP 175 zmr:=
 sT (cx':=zIi) (zi trivial) call175 func175 (lOK aN)
def zOz:=zbu base 42 [(105,ziG)]
def zCn (a:yB):Wy0 (Bool):=.i (Int.ofNat a.length != 1) (.k false) (.i (decide ((0:Int)<=(0:Int))&&decide (0<Int.ofNat a.length)) (.i ((a.getD (Int.toNat 0) default).Cf != 1) (.k false) (.i (decide ((0:Int)<=(0:Int))&&decide (0<Int.ofNat a.length)) (.i (Int.ofNat (a.getD (Int.toNat 0) default).Fs.length != 1) (.k false) (.i (decide ((0:Int)<=(0:Int))&&decide (0<Int.ofNat a.length)) (.i (decide ((0:Int)<=(0:Int))&&decide (0<Int.ofNat (a.getD (Int.toNat 0) default).Fs.length)) (.i (((a.getD (Int.toNat 0) default).Fs.getD (Int.toNat 0) default).Exp==1) (.i (((a.getD (Int.toNat 0) default).Fs.getD (Int.toNat 0) default).At.Kind==2) (.k true) (.bn (zeX (At.mk ((a.getD (Int.toNat 0) default).Fs.getD (Int.toNat 0) default).At.Kind ((a.getD (Int.toNat 0) default).Fs.getD (Int.toNat 0) default).At.Row ((a.getD (Int.toNat 0) default).Fs.getD (Int.toNat 0) default).At.Ag ((a.getD (Int.toNat 0) default).Fs.getD (Int.toNat 0) default).At.Func ((a.getD (Int.toNat 0) default).Fs.getD (Int.toNat 0) default).At.Items ((a.getD (Int.toNat 0) default).Fs.getD (Int.toNat 0) default).At.Op ((a.getD (Int.toNat 0) default).Fs.getD (Int.toNat 0) default).At.Bd)) λr0=>.k r0)) (.k false)) .d) .d)) .d)) .d)
def zj4 (a:yB):=(zCn a).fin default
def zrF:=zh zSC λx=>((zj4 x.1).1,zQK (zj4 x.1).2)
theorem zxI:SdP 176 zrF:=
 sT (cx':=zOz) (zi ⟨zlK,trivial⟩) call176 func176 (lOK aN)
def z0m:=zbu base 11 []
def zNK (id:RowID):Wy0 (Bool):=.i (decide (id.Table≥1)) (.k (decide (id.Seq≥1))) (.k false)
def zpj (id:RowID):=(zNK id).fin default
def zrR:=zh z5V λx=>((zpj x.1).1,zQK (zpj x.1).2)
theorem zwo:SdP 116 zrR:=
 sT (cx':=z0m) (zi trivial) call116 func116 (lOK aN)
abbrev zd9:=yD×Unit×Int×Unit
def zdL (x_:yD) (i:Int):Wy zd9 Unit (Bool⊕Unit):=.i (decide (i>0)) (.i (decide (0<=i)&&decide (i<Int.ofNat x_.length)) (.i (decide (0<=IntKind.i64.wrap (i - 1))&&decide (IntKind.i64.wrap (i - 1)<Int.ofNat x_.length)) (.bn (zbp (x_.getD i.toNat default) (x_.getD (IntKind.i64.wrap (i - 1)).toNat default)) λr0=>.i (decide (r0<0)) (.k (.inl false)) (.h (x_,(),(IntKind.i64.wrap (i - 1)),()) ())) .d) .d) (.k (.inr ()))
def zgO (x:zd9) (y:Unit):=zdL x.1 x.2.2.1
def zdM (n:Nat) (x_:yD) (i:Int):=zB (zgO) (.inl default) n (x_,(),i,()) ()
def zoz:LL ty zd9:=za (lSl 169) (za (lFn 172 (zl)) (za zj zl))
def zgC:=zbX base 25 [(172,ze1)] [] [(2,(kpL [0,1,5]))] [(2,1,[]),(2,0,(kpL [4]))] [(2,spW zoz z3q (zgO) (.inl default) zlC λx y=>(x.1.length+Int.toNat x.2.2.1+1))] []
theorem zn0:zF zgC (lp (body f180) 0):=zn (id:=2) (hl:=rfl)
def zg8 (x_:yD):Wy0 (Bool):=.bn (zdM (x_.length+(IntKind.i64.wrap (Int.ofNat x_.length - 1)).toNat +1) x_ (IntKind.i64.wrap (Int.ofNat x_.length - 1))) λr2=>.i (isL r2) (.k (getL r2)) (.k true)
def zce (x_:yD):=(zg8 x_).fin default
def zo2:AL base (yD×Unit×Unit):=zd (zg (vSl 169)) (zd (zg (vFn 172 zcR)) zq)
def zgf:=zh zo2 λx=>((zce x.1).1,zQK (zce x.1).2)
theorem zmH:SdP 180 zgf:=
 sT (cx':=zgC) (zi ⟨zgT,trivial⟩) call180 func180 (lOK (aC zn0 aN))
def zcH (zb:yA->Bool×Bool) (ze:yB->Bool×Bool) (zc:yD->Bool×Bool) (zf:Wd->Bool×Bool):=zbu base 149 [(115,zl2),(116,zrR),(172,ze1),(173,(zck zb)),(174,(zhc ze)),(175,zmr),(176,zrF),(177,zlv),(178,(zcz zc)),(179,(zc3 zf)),(180,zgf),(181,zp8)]
def zb6 (zb:yA->Bool×Bool) (ze:yB->Bool×Bool) (zc:yD->Bool×Bool) (zf:Wd->Bool×Bool) (x_:At):Wy0 (Bool):=.i (x_.Kind==0) (.i (x_.Func != 0) (.k false) (.i (Int.ofNat x_.Items.length != 0) (.k false) (.i (x_.Op != 0) (.k false) (.i (!(x_.Bd.Kind==0&&(x_.Bd.Int==0&&(x_.Bd.Text.toList==(ByteArray.mk #[]).toList&&true)))) (.k false) (.bn (zb x_.Ag) λr1=>.i (r1) (.k false) (.bn (zpj x_.Row) λr0=>.i (r0) (.k (Int.ofNat x_.Ag.length==0)) (.k false))))))) (.i (x_.Kind==1) (.i (x_.Func != 0) (.k false) (.i (Int.ofNat x_.Items.length != 0) (.k false) (.i (x_.Op != 0) (.k false) (.i (!(x_.Bd.Kind==0&&(x_.Bd.Int==0&&(x_.Bd.Text.toList==(ByteArray.mk #[]).toList&&true)))) (.k false) (.i (!(x_.Row.Table==0&&(x_.Row.Seq==0&&true))) (.k false) (.bn (zb x_.Ag) λr3=>.i (r3) (.k false) (.i (Int.ofNat x_.Ag.length==2) (.i (decide ((0:Int)<=(0:Int))&&decide (0<Int.ofNat x_.Ag.length)) (.i (decide ((0:Int)<=(1:Int))&&decide (1<Int.ofNat x_.Ag.length)) (.bn (zfz (x_.Ag.getD (Int.toNat 0) default) (x_.Ag.getD (Int.toNat 1) default)) λr2=>.k (!r2)) .d) .d) (.k false)))))))) (.i (x_.Kind==2) (.i (x_.Func != 0) (.k false) (.i (Int.ofNat x_.Items.length != 0) (.k false) (.i (x_.Op != 0) (.k false) (.i (!(x_.Bd.Kind==0&&(x_.Bd.Int==0&&(x_.Bd.Text.toList==(ByteArray.mk #[]).toList&&true)))) (.k false) (.i (!(x_.Row.Table==0&&(x_.Row.Seq==0&&true))) (.k false) (.bn (zb x_.Ag) λr6=>.i (r6) (.k false) (.i (Int.ofNat x_.Ag.length==1) (.i (decide ((0:Int)<=(0:Int))&&decide (0<Int.ofNat x_.Ag.length)) (.bn (zgP (x_.Ag.getD (Int.toNat 0) default)) λr5=>.i (!r5) (.i (decide ((0:Int)<=(0:Int))&&decide (0<Int.ofNat x_.Ag.length)) (.bn (zj4 (x_.Ag.getD (Int.toNat 0) default)) λr4=>.k (!r4)) .d) (.k false)) .d) (.k false)))))))) (.i (x_.Kind==3) (.i (x_.Func != 0) (.k false) (.i (Int.ofNat x_.Items.length != 0) (.k false) (.i (x_.Op != 0) (.k false) (.i (!(x_.Bd.Kind==0&&(x_.Bd.Int==0&&(x_.Bd.Text.toList==(ByteArray.mk #[]).toList&&true)))) (.k false) (.i (!(x_.Row.Table==0&&(x_.Row.Seq==0&&true))) (.k false) (.bn (zb x_.Ag) λr8=>.i (r8) (.k false) (.i (Int.ofNat x_.Ag.length==1) (.i (decide ((0:Int)<=(0:Int))&&decide (0<Int.ofNat x_.Ag.length)) (.bn (zeo (x_.Ag.getD (Int.toNat 0) default)) λr7=>.k (!r7)) .d) (.k false)))))))) (.i (x_.Kind==4) (.i (!(x_.Row.Table==0&&(x_.Row.Seq==0&&true))) (.k false) (.bn (zb x_.Ag) λr12=>.i (r12) (.k false) (.bn (zc x_.Items) λr11=>.i (Int.ofNat x_.Ag.length==0) (.i (decide (Int.ofNat x_.Items.length>0)) (.i (!r11) (.bn (zce x_.Items) λr10=>.i (r10) (.bn (zi0 x_.Func x_.Items x_.Op x_.Bd) λr9=>.k r9) (.k false)) (.k false)) (.k false)) (.k false)))) (.i (x_.Func != 0) (.k false) (.i (Int.ofNat x_.Items.length != 0) (.k false) (.i (x_.Op != 0) (.k false) (.i (!(x_.Bd.Kind==0&&(x_.Bd.Int==0&&(x_.Bd.Text.toList==(ByteArray.mk #[]).toList&&true)))) (.k false) (.i (!(x_.Row.Table==0&&(x_.Row.Seq==0&&true))) (.k false) (.bn (zb x_.Ag) λr14=>.i (r14) (.k false) (.k false)))))))))))
def ziq (zb:yA->Bool×Bool) (ze:yB->Bool×Bool) (zc:yD->Bool×Bool) (zf:Wd->Bool×Bool) (x_:At):=(zb6 zb ze zc zf x_).fin default
theorem zDY (zb:yA->Bool×Bool) (ze:yB->Bool×Bool) (zc:yD->Bool×Bool) (zf:Wd->Bool×Bool) (v_Row:RowID) (v_Args:yA) (v_Func:Int) (v_Items:yD) (v_Op:Int) (v_Bound:Value)  :zdT (zcH zb ze zc zf) f107 (body f107) ⟨[.pure],[]⟩ [.pure (.agg (base.enc 143 (At.mk (Int.ofNat 0) v_Row v_Args v_Func v_Items v_Op v_Bound)))]=(zb6 zb ze zc zf (At.mk (Int.ofNat 0) v_Row v_Args v_Func v_Items v_Op v_Bound)).ev noH (λr=>some (zQK r)) none:=by kernel_rfl
theorem zEt (zb:yA->Bool×Bool) (ze:yB->Bool×Bool) (zc:yD->Bool×Bool) (zf:Wd->Bool×Bool) (v_Row:RowID) (v_Args:yA) (v_Func:Int) (v_Items:yD) (v_Op:Int) (v_Bound:Value)  :zdT (zcH zb ze zc zf) f107 (body f107) ⟨[.pure],[]⟩ [.pure (.agg (base.enc 143 (At.mk (Int.ofNat 1) v_Row v_Args v_Func v_Items v_Op v_Bound)))]=(zb6 zb ze zc zf (At.mk (Int.ofNat 1) v_Row v_Args v_Func v_Items v_Op v_Bound)).ev noH (λr=>some (zQK r)) none:=by kernel_rfl
theorem zDF (zb:yA->Bool×Bool) (ze:yB->Bool×Bool) (zc:yD->Bool×Bool) (zf:Wd->Bool×Bool) (v_Row:RowID) (v_Args:yA) (v_Func:Int) (v_Items:yD) (v_Op:Int) (v_Bound:Value)  :zdT (zcH zb ze zc zf) f107 (body f107) ⟨[.pure],[]⟩ [.pure (.agg (base.enc 143 (At.mk (Int.ofNat 2) v_Row v_Args v_Func v_Items v_Op v_Bound)))]=(zb6 zb ze zc zf (At.mk (Int.ofNat 2) v_Row v_Args v_Func v_Items v_Op v_Bound)).ev noH (λr=>some (zQK r)) none:=by kernel_rfl
theorem zEE (zb:yA->Bool×Bool) (ze:yB->Bool×Bool) (zc:yD->Bool×Bool) (zf:Wd->Bool×Bool) (v_Row:RowID) (v_Args:yA) (v_Func:Int) (v_Items:yD) (v_Op:Int) (v_Bound:Value)  :zdT (zcH zb ze zc zf) f107 (body f107) ⟨[.pure],[]⟩ [.pure (.agg (base.enc 143 (At.mk (Int.ofNat 3) v_Row v_Args v_Func v_Items v_Op v_Bound)))]=(zb6 zb ze zc zf (At.mk (Int.ofNat 3) v_Row v_Args v_Func v_Items v_Op v_Bound)).ev noH (λr=>some (zQK r)) none:=by kernel_rfl
theorem zEq (zb:yA->Bool×Bool) (ze:yB->Bool×Bool) (zc:yD->Bool×Bool) (zf:Wd->Bool×Bool) (v_Row:RowID) (v_Args:yA) (v_Func:Int) (v_Items:yD) (v_Op:Int) (v_Bound:Value)  :zdT (zcH zb ze zc zf) f107 (body f107) ⟨[.pure],[]⟩ [.pure (.agg (base.enc 143 (At.mk (Int.ofNat 4) v_Row v_Args v_Func v_Items v_Op v_Bound)))]=(zb6 zb ze zc zf (At.mk (Int.ofNat 4) v_Row v_Args v_Func v_Items v_Op v_Bound)).ev noH (λr=>some (zQK r)) none:=by kernel_rfl
theorem zEP (zb:yA->Bool×Bool) (ze:yB->Bool×Bool) (zc:yD->Bool×Bool) (zf:Wd->Bool×Bool) (n:Nat) (v_Row:RowID) (v_Args:yA) (v_Func:Int) (v_Items:yD) (v_Op:Int) (v_Bound:Value)  :zdT (zcH zb ze zc zf) f107 (body f107) ⟨[.pure],[]⟩ [.pure (.agg (base.enc 143 (At.mk (Int.ofNat (n+5)) v_Row v_Args v_Func v_Items v_Op v_Bound)))]=(zb6 zb ze zc zf (At.mk (Int.ofNat (n+5)) v_Row v_Args v_Func v_Items v_Op v_Bound)).ev noH (λr=>some (zQK r)) none:=by kernel_rfl
theorem zEz (zb:yA->Bool×Bool) (ze:yB->Bool×Bool) (zc:yD->Bool×Bool) (zf:Wd->Bool×Bool) (n:Nat) (v_Row:RowID) (v_Args:yA) (v_Func:Int) (v_Items:yD) (v_Op:Int) (v_Bound:Value)  :zdT (zcH zb ze zc zf) f107 (body f107) ⟨[.pure],[]⟩ [.pure (.agg (base.enc 143 (At.mk (Int.negSucc n) v_Row v_Args v_Func v_Items v_Op v_Bound)))]=(zb6 zb ze zc zf (At.mk (Int.negSucc n) v_Row v_Args v_Func v_Items v_Op v_Bound)).ev noH (λr=>some (zQK r)) none:=by kernel_rfl
theorem zFG (zb:yA->Bool×Bool) (ze:yB->Bool×Bool) (zc:yD->Bool×Bool) (zf:Wd->Bool×Bool) (x_:At):zdT (zcH zb ze zc zf) f107 (body f107) ⟨[.pure],[]⟩ [.pure (.agg (base.enc 143 x_))]=(zb6 zb ze zc zf x_).ev noH (λr=>some (zQK r)) none:=by
 obtain ⟨v_Kind,v_Row,v_Args,v_Func,v_Items,v_Op,v_Bound⟩:=x_
 match v_Kind with
 | .ofNat 0=>exact zDY zb ze zc zf v_Row v_Args v_Func v_Items v_Op v_Bound 
 | .ofNat 1=>exact zEt zb ze zc zf v_Row v_Args v_Func v_Items v_Op v_Bound 
 | .ofNat 2=>exact zDF zb ze zc zf v_Row v_Args v_Func v_Items v_Op v_Bound 
 | .ofNat 3=>exact zEE zb ze zc zf v_Row v_Args v_Func v_Items v_Op v_Bound 
 | .ofNat 4=>exact zEq zb ze zc zf v_Row v_Args v_Func v_Items v_Op v_Bound 
 | .ofNat (n+5)=>exact zEP zb ze zc zf n v_Row v_Args v_Func v_Items v_Op v_Bound 
 | .negSucc n=>exact zEz zb ze zc zf n v_Row v_Args v_Func v_Items v_Op v_Bound 
theorem zCD (zb:yA->Bool×Bool) (ze:yB->Bool×Bool) (zc:yD->Bool×Bool) (zf:Wd->Bool×Bool) (zkv:SdP 173 (zck zb)) (zfo:SdP 174 (zhc ze)) (zlY:SdP 178 (zcz zc)) (zfh:SdP 179 (zc3 zf)):SdP 107 (zlf (ziq zb ze zc zf)):=
 z0S (cx':=(zcH zb ze zc zf)) zyG zet z43 (zi ⟨zrv,zwo,zgT,zkv,zfo,ztg,zxI,zsl,zlY,zfh,zmH,zwE,trivial⟩) call107 func107 (c:=body f107) (by kernel_rfl) (zqC (l:=[]) (by kernel_rfl) trivial) (sg:=⟨[.pure],[]⟩) (A:=z36) (res:=zQK) (W:=λx=>zb6 zb ze zc zf x.1) (z:=default) (λx=>zFG zb ze zc zf x.1) (λ_=>by kernel_rfl)
def zCF (zbG:yB->Bool×Bool):=zbu base 11 [(52,(zhc zbG))]
def zth (zbG:yB->Bool×Bool) (a:yB):Wy0 (Bool):=.bn (zbG a) λr0=>.i (!r0) (.k true) (.k (Int.ofNat a.length==0))
def zja (zbG:yB->Bool×Bool) (a:yB):=(zth zbG a).fin default
theorem zAk (zbG:yB->Bool×Bool) (ztH:SdP 52 (zhc zbG)):SdP 174 (zhc (zja zbG)):=
 sT (cx':=(zCF zbG)) (zi ⟨ztH,trivial⟩) call174 func174 (lOK aN)
def zDq (zbG:yB->Bool×Bool):=zbu base 13 [(52,(zhc zbG))]
def zs4 (zbG:yB->Bool×Bool) (w:Wd):Wy0 (Bool):=.bn (zbG w.Ann) λr0=>.i (!r0) (.k true) (.k (Int.ofNat w.Ann.length==0))
def zi8 (zbG:yB->Bool×Bool) (w:Wd):=(zs4 zbG w).fin default
theorem zAe (zbG:yB->Bool×Bool) (ztH:SdP 52 (zhc zbG)):SdP 179 (zc3 (zi8 zbG)):=
 sT (cx':=(zDq zbG)) (zi ⟨ztH,trivial⟩) call179 func179 (lOK aN)
def zkd (ze:yB->Bool×Bool) (zV:yA->Bool×Int):=zbu base 9 [(174,(zhc ze)),(226,(zcw zV))]
def zeK (ze:yB->Bool×Bool) (zV:yA->Bool×Int) (s:yA):Wy0 (Bool):=.bn (zV s) λr0=>.k (decide (r0≥0))
def zci (ze:yB->Bool×Bool) (zV:yA->Bool×Int) (s:yA):=(zeK ze zV s).fin default
theorem zjn (ze:yB->Bool×Bool) (zV:yA->Bool×Int) (zfo:SdP 174 (zhc ze)) (zlo:SdP 226 (zcw zV)):SdP 173 (zck (zci ze zV)):=
 sT (cx':=(zkd ze zV)) (zi ⟨zfo,zlo,trivial⟩) call173 func173 (lOK aN)
def zlP (zf:Wd->Bool×Bool) (zY:yD->Bool×Int):=zbu base 9 [(179,(zc3 zf)),(228,(zcK zY))]
def zfD (zf:Wd->Bool×Bool) (zY:yD->Bool×Int) (s:yD):Wy0 (Bool):=.bn (zY s) λr0=>.k (decide (r0≥0))
def zcA (zf:Wd->Bool×Bool) (zY:yD->Bool×Int) (s:yD):=(zfD zf zY s).fin default
theorem zkG (zf:Wd->Bool×Bool) (zY:yD->Bool×Int) (zfh:SdP 179 (zc3 zf)) (znQ:SdP 228 (zcK zY)):SdP 178 (zcz (zcA zf zY)):=
 sT (cx':=(zlP zf zY)) (zi ⟨zfh,znQ,trivial⟩) call178 func178 (lOK aN)
abbrev zcL:=yA×Unit×Int×Int×Unit
def zlg (ze:yB->Bool×Bool) (s:yA) (t7:Int) (t8:Int):Wy zcL Unit (Int⊕Unit):=.i (decide (t8<t7)) (.i (decide (0<=t8)&&decide (t8<Int.ofNat s.length)) (.bn (ze (s.getD t8.toNat default)) λr0=>.i (r0) (.k (.inl t8)) (.h (s,(),t7,(IntKind.i64.wrap (t8+1)),()) ())) .d) (.k (.inr ()))
def zfe (ze:yB->Bool×Bool) (x:zcL) (y:Unit):=zlg ze x.1 x.2.2.1 x.2.2.2.1
def zld (ze:yB->Bool×Bool) (n:Nat) (s:yA) (t7:Int) (t8:Int):=zB (zfe ze) (.inl default) n (s,(),t7,t8,()) ()
def zk8:LL ty zcL:=za (lSl 51) (za (lFn 174 (zl)) (za zj (za zj zl)))
def zkQ (x:zcL) (y:Unit):Nat:=(x.1.length+Int.toNat x.2.2.1+Int.toNat x.2.2.2.1+1)
def ze8 (ze:yB->Bool×Bool):=zbX base 19 [(174,(zhc ze))] [] [(2,(kpL [0,1,7,8]))] [(2,1,[]),(2,0,(kpL [4]))] [(2,spW zk8 z3q (zfe ze) (.inl default) zp5 zkQ)] []
theorem zkX (ze:yB->Bool×Bool):zF (ze8 ze) (lp (body f226) 0):=zn (id:=2) (hl:=rfl)
def zlE (ze:yB->Bool×Bool) (s:yA):Wy0 (Int):=.bn (zld ze (s.length+(Int.ofNat s.length).toNat +Int.toNat 0+1) s (Int.ofNat s.length) 0) λr2=>.i (isL r2) (.k (getL r2)) (.k (-1:Int))
def zcv (ze:yB->Bool×Bool) (s:yA):=(zlE ze s).fin default
theorem zkh (ze:yB->Bool×Bool) (zfo:SdP 174 (zhc ze)):SdP 226 (zcw (zcv ze)):=
 sT (cx':=(ze8 ze)) (zi ⟨zfo,trivial⟩) call226 func226 (lOK (aC (zkX ze) aN))
end Go.Proofs.YtoknknbmfmddbaaGreatDoor
end
