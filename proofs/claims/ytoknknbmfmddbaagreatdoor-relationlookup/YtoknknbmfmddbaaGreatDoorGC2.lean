/- Texts of this claim, joined (the program, its functions in plain words, and what they compute). -/
import Derived.Test.YtoknknbmfmddbaaGreatDoorGC1
set_option autoImplicit false
set_option linter.unusedVariables false
set_option linter.unusedSectionVars false
set_option linter.unusedSimpArgs false
set_option maxRecDepth 1000000
set_option maxHeartbeats 0
noncomputable section
namespace Go.Proofs.YtoknknbmfmddbaaGreatDoor
open Go Go.Ab
open Go.Proofs.Tryz
abbrev zca:=yH×yH×Unit×yH×Int×Int×Unit
abbrev zeZ:=Int⊕(yH×yH)
def ziJ (s1:yH) (s2:yH) (t11:yH) (t12:Int) (t13:Int):Wy zca Unit zeZ:=.i (decide (t13<t12)) (.i (decide (0<=t13)&&decide (t13<Int.ofNat t11.length)) (.i (decide (t13≥Int.ofNat s2.length)) (.k (.inl 1)) (.i (decide (0<=t13)&&decide (t13<Int.ofNat s2.length)) (.bn (zin (t11.getD t13.toNat default) (s2.getD t13.toNat default)) λr0=>.i (r0 != 0) (.k (.inl (r0))) (.h (s1,s2,(),t11,t12,(IntKind.i64.wrap (t13+1)),()) ())) .d)) .d) (.k (.inr (s1,s2)))
def zdR (x:zca) (y:Unit):=ziJ x.1 x.2.1 x.2.2.2.1 x.2.2.2.2.1 x.2.2.2.2.2.1
def ziE (n:Nat) (s1:yH) (s2:yH) (t11:yH) (t12:Int) (t13:Int):=zD (zdR) (.inl default) n (s1,s2,(),t11,t12,t13,()) ()
def zix (r:zeZ):LTree ty:=.ite (isL r) (.done .ret [.lit (.int .i64 (getL r))] []) (.done (.exit 0) [.sl 79 (getR r).1,.sl 79 (getR r).2] [])
def ziY:LL ty zca:=za (lSl 79) (za (lSl 79) (za (lFn 131 (zn)) (za (lSl 79) (za zj (za zj zn)))))
def ziw (x:zca) (y:Unit):Nat:=(x.1.length+x.2.1.length+x.2.2.2.1.length+Int.toNat x.2.2.2.2.1+Int.toNat x.2.2.2.2.2.1+1)
def zdT:=zb4 base 39 [(131,zlt)] [] [(2,(kpL [0,1,2,11,12,13]))] [(2,1,(kpL [0,1])),(2,0,(kpL [6]))] [(2,spW ziY z0j (zdR) (.inl default) zix ziw)] []
theorem ziz:zM zdT (lp (body f130) 0):=zu (id:=2) (hl:=rfl)
def zje (s1:yH) (s2:yH):Wy0 (Int):=.bn (ziE (s1.length+s2.length+s1.length+(Int.ofNat s1.length).toNat +Int.toNat 0+1) s1 s2 s1 (Int.ofNat s1.length) 0) λr2=>.i (isL r2) (.k (getL r2)) (.i (decide (Int.ofNat (getR r2).1.length<Int.ofNat (getR r2).2.length)) (.k (-1:Int)) (.k 0))
def zbX (s1:yH) (s2:yH):=(zje s1 s2).fin default
def zjg:AL base (yH×yH×Unit×Unit):=zd (zg (vSl 79)) (zd (zg (vSl 79)) (zd (zg (vFn 131 zcr)) zw))
def zdJ:=zh zjg λx=>((zbX x.1 x.2.1).1,zLf (zbX x.1 x.2.1).2)
theorem zic:SdP 130 zdJ:=
 sT (cx':=zdT) (zk ⟨zpg,trivial⟩) call130 func130 (lOK (aC ziz aN))
def zNS:=zbG base 8 [(130,zdJ),(131,zlt)]
def zBX (a:yH) (b:yH):Wy0 (Int):=.bn (zbX a b) λr0=>.k r0
def zj3 (a:yH) (b:yH):=(zBX a b).fin default
def zRc:AL base (yH×yH×Unit):=zd (zg (vSl 79)) (zd (zg (vSl 79)) zw)
def zrj:=zh zRc λx=>((zj3 x.1 x.2.1).1,zLf (zj3 x.1 x.2.1).2)
theorem zw5:SdP 77 zrj:=
 sT (cx':=zNS) (zk ⟨zic,zpg,trivial⟩) call77 func77 (lOK aN)
def zQN:=zbG base 10 [(77,zrj)]
def zR3 (x_:Row) (y_:Row):Wy0 (Int):=.bn (zj3 x_.Values y_.Values) λr0=>.k r0
def zdp (x_:Row) (y_:Row):=(zR3 x_ y_).fin default
def zTP:AL base (Row×Row×Unit):=zd (zg (zcj 54)) (zd (zg (zcj 54)) zw)
def zeU:=zh zTP λx=>((zdp x.1 x.2.1).1,zLf (zdp x.1 x.2.1).2)
theorem zfF:SdP 53 zeU:=
 sT (cx':=zQN) (zk ⟨zw5,trivial⟩) call53 func53 (lOK aN)
def zQV:=zbG base 16 [(53,zeU),(115,zmo)]
def zSF (x_:Row) (y_:Row):Wy0 (Bool):=.bn (zdp x_ y_) λr1=>.i (r1==0) (.bn (zgP x_.Ann y_.Ann) λr0=>.k r0) (.k false)
def zyK (x_:Row) (y_:Row):=(zSF x_ y_).fin default
def zsy:=zh zTP λx=>((zyK x.1 x.2.1).1,zQZ (zyK x.1 x.2.1).2)
theorem zyb:SdP 60 zsy:=
 sT (cx':=zQV) (zk ⟨zfF,zrt,trivial⟩) call60 func60 (lOK aN)
abbrev zc3:=yG×Unit×yG×Int×Int×Unit
def zl0 (s2:yG) (t15:yG) (t16:Int) (t17:Int):Wy zc3 Unit (Bool⊕Unit):=.i (decide (t17<t16)) (.i (decide (0<=t17)&&decide (t17<Int.ofNat t15.length)) (.i (decide (0<=t17)&&decide (t17<Int.ofNat s2.length)) (.bn (zyK (t15.getD t17.toNat default) (s2.getD t17.toNat default)) λr0=>.i (!r0) (.k (.inl false)) (.h (s2,(),t15,t16,(IntKind.i64.wrap (t17+1)),()) ())) .d) .d) (.k (.inr ()))
def zfu (x:zc3) (y:Unit):=zl0 x.1 x.2.2.1 x.2.2.2.1 x.2.2.2.2.1
def zl3 (n:Nat) (s2:yG) (t15:yG) (t16:Int) (t17:Int):=zD (zfu) (.inl default) n (s2,(),t15,t16,t17,()) ()
def zlq (r:Bool⊕Unit):LTree ty:=.ite (isL r) (.done .ret [.lit (.bool (getL r))] []) (.done (.exit 0) [] [])
def zlZ:LL ty zc3:=za (lSl 54) (za (lFn 60 (zn)) (za (lSl 54) (za zj (za zj zn))))
def zls (x:zc3) (y:Unit):Nat:=(x.1.length+x.2.2.1.length+Int.toNat x.2.2.2.1+Int.toNat x.2.2.2.2.1+1000)
def zfs:=zb4 base 32 [(60,zsy)] [] [(4,(kpL [1,2,15,16,17]))] [(4,1,[]),(4,0,(kpL [6]))] [(4,spW zlZ z0j (zfu) (.inl default) zlq zls)] []
theorem zlx:zM zfs (lp (body f59) 0):=zu (id:=4) (hl:=rfl)
def zmT (s1:yG) (s2:yG):Wy0 (Bool):=.i (Int.ofNat s1.length != Int.ofNat s2.length) (.k false) (.bn (zl3 (s2.length+s1.length+(Int.ofNat s1.length).toNat +Int.toNat 0+1000) s2 s1 (Int.ofNat s1.length) 0) λr2=>.i (isL r2) (.k (getL r2)) (.k true))
def zdC (s1:yG) (s2:yG):=(zmT s1 s2).fin default
def zmY:AL base (yG×yG×Unit×Unit):=zd (zg (vSl 54)) (zd (zg (vSl 54)) (zd (zg (vFn 60 zcr)) zw))
def zeY:=zh zmY λx=>((zdC x.1 x.2.1).1,zQZ (zdC x.1 x.2.1).2)
theorem zkW:SdP 59 zeY:=
 sT (cx':=zfs) (zk ⟨zyb,trivial⟩) call59 func59 (lOK (aC zlx aN))
abbrev zeF:=yI×yI×Int×Int×Unit
def zvv (s1:yI) (s2:yI) (t12:Int) (t13:Int):Wy zeF Unit (Bool⊕Unit):=.i (decide (t13<t12)) (.i (decide (0<=t13)&&decide (t13<Int.ofNat s1.length)) (.i (decide (0<=t13)&&decide (t13<Int.ofNat s2.length)) (.i (!((s1.getD t13.toNat default).Name.toList==(s2.getD t13.toNat default).Name.toList&&((s1.getD t13.toNat default).Type_==(s2.getD t13.toNat default).Type_&&true))) (.k (.inl false)) (.h (s1,s2,t12,(IntKind.i64.wrap (t13+1)),()) ())) .d) .d) (.k (.inr ()))
def zkr (x:zeF) (y:Unit):=zvv x.1 x.2.1 x.2.2.1 x.2.2.2.1
def zvq (n:Nat) (s1:yI) (s2:yI) (t12:Int) (t13:Int):=zD (zkr) (.inl default) n (s1,s2,t12,t13,()) ()
def zuW:LL ty zeF:=za (lSl 75) (za (lSl 75) (za zj (za zj zn)))
def zut (x:zeF) (y:Unit):Nat:=(x.1.length+x.2.1.length+Int.toNat x.2.2.1+Int.toNat x.2.2.2.1+1000)
def zkt:=zb4 base 26 [] [] [(4,(kpL [0,1,12,13]))] [(4,1,[]),(4,0,(kpL [4]))] [(4,spW zuW z0j (zkr) (.inl default) zlq zut)] []
theorem zuk:zM zkt (lp (body f58) 0):=zu (id:=4) (hl:=rfl)
def zvU (s1:yI) (s2:yI):Wy0 (Bool):=.i (Int.ofNat s1.length != Int.ofNat s2.length) (.k false) (.bn (zvq (s1.length+s2.length+(Int.ofNat s1.length).toNat +Int.toNat 0+1000) s1 s2 (Int.ofNat s1.length) 0) λr0=>.i (isL r0) (.k (getL r0)) (.k true))
def zhf (s1:yI) (s2:yI):=(zvU s1 s2).fin default
def zvX:AL base (yI×yI×Unit):=zd (zg (vSl 75)) (zd (zg (vSl 75)) zw)
def zjQ:=zh zvX λx=>((zhf x.1 x.2.1).1,zQZ (zhf x.1 x.2.1).2)
theorem zsR:SdP 58 zjQ:=
 sT (cx':=zkt) (zk trivial) call58 func58 (lOK (aC zuk aN))
def zUP:=zbG base 17 [(58,zjQ),(59,zeY),(60,zsy)]
def zWh (a:Relation) (b:Relation):Wy0 (Bool):=.bn (zhf a.Columns b.Columns) λr1=>.i (r1) (.bn (zdC a.Rows b.Rows) λr0=>.k r0) (.k false)
def zNf (a:Relation) (b:Relation):=(zWh a b).fin default
def zVY:AL base (Relation×Relation×Unit):=zd (zg (zcj 25)) (zd (zg (zcj 25)) zw)
def zBV:=zh zVY λx=>((zNf x.1 x.2.1).1,zQZ (zNf x.1 x.2.1).2)
theorem zPr:SdP 16 zBV:=
 sT (cx':=zUP) (zk ⟨zsR,zkW,zyb,trivial⟩) call16 func16 (lOK aN)
def zTC:AL base (yB×Unit):=zd (zg (vSl 107)) zw
def zgN (F:yB->Bool×Bool):Ab.Spec ty:=zh zTC λx=>((F x.1).1,zQZ (F x.1).2)
def zlk (F:At->Bool×Bool):Ab.Spec ty:=zh z1X λx=>((F x.1).1,zQZ (F x.1).2)
def zGy:AL base (Wd×Unit):=zd (zg (zcj 169)) zw
def zcZ (F:Wd->Bool×Bool):Ab.Spec ty:=zh zGy λx=>((F x.1).1,zQZ (F x.1).2)
def zmK:AL base (yA×Unit×Unit):=zd (zg (vSl 51)) (zd (zg (vFn 174 zcr)) zw)
def zcp (F:yA->Bool×Int):Ab.Spec ty:=zh zmK λx=>((F x.1).1,zLf (F x.1).2)
def zcd (F:yA->Bool×Bool):Ab.Spec ty:=zh zmK λx=>((F x.1).1,zQZ (F x.1).2)
def zo5:AL base (yD×Unit×Unit):=zd (zg (vSl 169)) (zd (zg (vFn 179 zcr)) zw)
def zcI (F:yD->Bool×Int):Ab.Spec ty:=zh zo5 λx=>((F x.1).1,zLf (F x.1).2)
def zcv (F:yD->Bool×Bool):Ab.Spec ty:=zh zo5 λx=>((F x.1).1,zQZ (F x.1).2)
def zIs:=zbG base 11 []
def zxh (x_:At):Wy0 (Bool):=.i (x_.Kind==3) (.k true) (.k (x_.Kind==4))
def zeR (x_:At):=(zxh x_).fin default
def ziq:=zh z1X λx=>((zeR x.1).1,zQZ (zeR x.1).2)
theorem zlv:SdP 105 ziq:=
 sT (cx':=zIs) (zk trivial) call105 func105 (lOK aN)
def zns (F:yB->Bool×Int):Ab.Spec ty:=zh zTC λx=>((F x.1).1,zLf (F x.1).2)
abbrev zqU:=Int×Unit×yB×Int×Int×yC×Int×Int×yA×Int×Int×Unit
abbrev zDU:=Int×yB×Int×Int×yC×Int×Int×Fc
abbrev zqI:=Int×yB×Int×Int×yC×Int×Int×yD×Int×Int×Unit
abbrev zDb:=Int×yB×Int×Int×yC×Int×Int
abbrev zqD:=Int×yB×Int×Int×yC×Int×Int×Unit
abbrev zDG:=Int×yB×Int×Int
abbrev zqZ:=Int×yB×Int×Int×Unit
def ziH (zq:yB->Bool×Int) (n_:Int) (t12:yB) (t13:Int) (t14:Int) (t25:yC) (t26:Int) (t27:Int) (t33:yA) (t34:Int) (t35:Int) (f:Fc):Wy zqU (Fc×Unit) zDU:=.i (decide (t35<t34)) (.i (decide (0<=t35)&&decide (t35<Int.ofNat t33.length)) (.bn (zq (t33.getD t35.toNat default)) λr0=>.h ((IntKind.i64.wrap (n_+r0)),(),t12,t13,t14,t25,t26,t27,t33,t34,(IntKind.i64.wrap (t35+1)),()) (f,())) .d) (.k (n_,t12,t13,t14,t25,t26,t27,f))
def zsE (zq:yB->Bool×Int) (x:zqU) (y:Fc×Unit):=ziH zq x.1 x.2.2.1 x.2.2.2.1 x.2.2.2.2.1 x.2.2.2.2.2.1 x.2.2.2.2.2.2.1 x.2.2.2.2.2.2.2.1 x.2.2.2.2.2.2.2.2.1 x.2.2.2.2.2.2.2.2.2.1 x.2.2.2.2.2.2.2.2.2.2.1 y.1
def zzL (zq:yB->Bool×Int) (n:Nat) (n_:Int) (t12:yB) (t13:Int) (t14:Int) (t25:yC) (t26:Int) (t27:Int) (t33:yA) (t34:Int) (t35:Int) (f:Fc):=zD (zsE zq) default n (n_,(),t12,t13,t14,t25,t26,t27,t33,t34,t35,()) (f,())
def zLr (r:zDU):LTree ty:=.done (.exit 4) [.lit (.int .i64 r.1),.ptr 248 0,.sl 107 r.2.1,.lit (.int .i64 r.2.2.1),.lit (.int .i64 r.2.2.2.1),.sl 145 r.2.2.2.2.1,.lit (.int .i64 r.2.2.2.2.2.1),.lit (.int .i64 r.2.2.2.2.2.2.1)] [.box (base.enc 145 r.2.2.2.2.2.2.2) false]
def zMl:LL ty zqU:=za zj (za (zde 248 0) (za (lSl 107) (za zj (za zj (za (lSl 145) (za zj (za zj (za (lSl 51) (za zj (za zj zn))))))))))
def zNj:BL ty (Fc×Unit):=zev (zgF (λx=>(⟨⟨x.1,⟨x.2.1,x.2.2.1⟩,x.2.2.2.1,x.2.2.2.2.1,x.2.2.2.2.2.1,x.2.2.2.2.2.2.1,⟨x.2.2.2.2.2.2.2.1,x.2.2.2.2.2.2.2.2.1,x.2.2.2.2.2.2.2.2.2.1⟩⟩,x.2.2.2.2.2.2.2.2.2.2.1⟩:Fc)) (λx=>(x.At.Kind,x.At.Row.Table,x.At.Row.Seq,x.At.Ag,x.At.Func,x.At.Items,x.At.Op,x.At.Bd.Kind,x.At.Bd.Int,x.At.Bd.Text,x.Exp,())) (λ_=>rfl) (za (zN .i64) (za (zN .i64) (za (zN .i64) (za (lSl 51) (za (zN .i64) (za (lSl 169) (za (zN .i64) (za (zN .i64) (za (zN .i64) (za ztm (za (zN .i64) zn)))))))))))) false (zbd)
def ziW (zq:yB->Bool×Int) (n_:Int) (t12:yB) (t13:Int) (t14:Int) (t25:yC) (t26:Int) (t27:Int) (t46:yD) (t47:Int) (t48:Int):Wy zqI Unit zDb:=.i (decide (t48<t47)) (.i (decide (0<=t48)&&decide (t48<Int.ofNat t46.length)) (.bn (zq (t46.getD t48.toNat default).Ann) λr2=>.h ((IntKind.i64.wrap (n_+IntKind.i64.wrap (1+r2))),t12,t13,t14,t25,t26,t27,t46,t47,(IntKind.i64.wrap (t48+1)),()) ()) .d) (.k (n_,t12,t13,t14,t25,t26,t27))
def zsw (zq:yB->Bool×Int) (x:zqI) (y:Unit):=ziW zq x.1 x.2.1 x.2.2.1 x.2.2.2.1 x.2.2.2.2.1 x.2.2.2.2.2.1 x.2.2.2.2.2.2.1 x.2.2.2.2.2.2.2.1 x.2.2.2.2.2.2.2.2.1 x.2.2.2.2.2.2.2.2.2.1
def zzn (zq:yB->Bool×Int) (n:Nat) (n_:Int) (t12:yB) (t13:Int) (t14:Int) (t25:yC) (t26:Int) (t27:Int) (t46:yD) (t47:Int) (t48:Int):=zD (zsw zq) default n (n_,t12,t13,t14,t25,t26,t27,t46,t47,t48,()) ()
def zKx (r:zDb):LTree ty:=.done (.exit 6) [.lit (.int .i64 r.1),.sl 107 r.2.1,.lit (.int .i64 r.2.2.1),.lit (.int .i64 r.2.2.2.1),.sl 145 r.2.2.2.2.1,.lit (.int .i64 r.2.2.2.2.2.1),.lit (.int .i64 r.2.2.2.2.2.2)] []
def zM4:LL ty zqI:=za zj (za (lSl 107) (za zj (za zj (za (lSl 145) (za zj (za zj (za (lSl 169) (za zj (za zj zn)))))))))
def zjz (zq:yB->Bool×Int) (n_:Int) (t12:yB) (t13:Int) (t14:Int) (t25:yC) (t26:Int) (t27:Int):Wy zqD Unit zDG:=.i (decide (t27<t26)) (.i (decide (0<=t27)&&decide (t27<Int.ofNat t25.length)) (.bn (zzL zq (n_.toNat +t12.length+t13.toNat +t14.toNat +t25.length+t26.toNat +t27.toNat +(t25.getD t27.toNat default).At.Ag.length+(Int.ofNat (t25.getD t27.toNat default).At.Ag.length).toNat +Int.toNat 0+(t25.getD t27.toNat default).At.Ag.length+(t25.getD t27.toNat default).At.Items.length+1) n_ t12 t13 t14 t25 t26 t27 (t25.getD t27.toNat default).At.Ag (Int.ofNat (t25.getD t27.toNat default).At.Ag.length) 0 (FO.mk (At.mk (t25.getD t27.toNat default).At.Kind (t25.getD t27.toNat default).At.Row (t25.getD t27.toNat default).At.Ag (t25.getD t27.toNat default).At.Func (t25.getD t27.toNat default).At.Items (t25.getD t27.toNat default).At.Op (t25.getD t27.toNat default).At.Bd) (t25.getD t27.toNat default).Exp)) λr5=>.bn (zzn zq (r5.1.toNat +r5.2.1.length+r5.2.2.1.toNat +r5.2.2.2.1.toNat +r5.2.2.2.2.1.length+r5.2.2.2.2.2.1.toNat +r5.2.2.2.2.2.2.1.toNat +r5.2.2.2.2.2.2.2.At.Items.length+(Int.ofNat r5.2.2.2.2.2.2.2.At.Items.length).toNat +Int.toNat 0+1) r5.1 r5.2.1 r5.2.2.1 r5.2.2.2.1 r5.2.2.2.2.1 r5.2.2.2.2.2.1 r5.2.2.2.2.2.2.1 r5.2.2.2.2.2.2.2.At.Items (Int.ofNat r5.2.2.2.2.2.2.2.At.Items.length) 0) λr4=>.h ((r4.1),(r4.2.1),(r4.2.2.1),(r4.2.2.2.1),(r4.2.2.2.2.1),(r4.2.2.2.2.2.1),(IntKind.i64.wrap (r4.2.2.2.2.2.2+1)),()) ()) .d) (.k (n_,t12,t13,t14))
def ztg (zq:yB->Bool×Int) (x:zqD) (y:Unit):=zjz zq x.1 x.2.1 x.2.2.1 x.2.2.2.1 x.2.2.2.2.1 x.2.2.2.2.2.1 x.2.2.2.2.2.2.1
def zA9 (zq:yB->Bool×Int) (n:Nat) (n_:Int) (t12:yB) (t13:Int) (t14:Int) (t25:yC) (t26:Int) (t27:Int):=zD (ztg zq) default n (n_,t12,t13,t14,t25,t26,t27,()) ()
def zML (r:zDG):LTree ty:=.done (.exit 2) [.lit (.int .i64 r.1),.sl 107 r.2.1,.lit (.int .i64 r.2.2.1),.lit (.int .i64 r.2.2.2)] []
def zOo:LL ty zqD:=za zj (za (lSl 107) (za zj (za zj (za (lSl 145) (za zj (za zj zn))))))
def zjJ (zq:yB->Bool×Int) (n_:Int) (t12:yB) (t13:Int) (t14:Int):Wy zqZ Unit (Int):=.i (decide (t14<t13)) (.i (decide (0<=t14)&&decide (t14<Int.ofNat t12.length)) (.bn (zA9 zq ((IntKind.i64.wrap (n_+IntKind.i64.wrap (1+Int.ofNat (t12.getD t14.toNat default).Fs.length))).toNat +t12.length+t13.toNat +t14.toNat +(t12.getD t14.toNat default).Fs.length+(Int.ofNat (t12.getD t14.toNat default).Fs.length).toNat +Int.toNat 0+1) (IntKind.i64.wrap (n_+IntKind.i64.wrap (1+Int.ofNat (t12.getD t14.toNat default).Fs.length))) t12 t13 t14 (t12.getD t14.toNat default).Fs (Int.ofNat (t12.getD t14.toNat default).Fs.length) 0) λr8=>.h ((r8.1),(r8.2.1),(r8.2.2.1),(IntKind.i64.wrap (r8.2.2.2+1)),()) ()) .d) (.k n_)
def ztN (zq:yB->Bool×Int) (x:zqZ) (y:Unit):=zjJ zq x.1 x.2.1 x.2.2.1 x.2.2.2.1
def zAP (zq:yB->Bool×Int) (n:Nat) (n_:Int) (t12:yB) (t13:Int) (t14:Int):=zD (ztN zq) default n (n_,t12,t13,t14,()) ()
def zMt (r:Int):LTree ty:=.done (.exit 0) [.lit (.int .i64 r)] []
def zOS:LL ty zqZ:=za zj (za (lSl 107) (za zj (za zj zn)))
def zKy (x:zqU) (y:Fc×Unit):Nat:=(Int.toNat x.1+x.2.2.1.length+Int.toNat x.2.2.2.1+Int.toNat x.2.2.2.2.1+x.2.2.2.2.2.1.length+Int.toNat x.2.2.2.2.2.2.1+Int.toNat x.2.2.2.2.2.2.2.1+x.2.2.2.2.2.2.2.2.1.length+Int.toNat x.2.2.2.2.2.2.2.2.2.1+Int.toNat x.2.2.2.2.2.2.2.2.2.2.1+y.1.At.Ag.length+y.1.At.Items.length+1)
def zLB (x:zqI) (y:Unit):Nat:=(Int.toNat x.1+x.2.1.length+Int.toNat x.2.2.1+Int.toNat x.2.2.2.1+x.2.2.2.2.1.length+Int.toNat x.2.2.2.2.2.1+Int.toNat x.2.2.2.2.2.2.1+x.2.2.2.2.2.2.2.1.length+Int.toNat x.2.2.2.2.2.2.2.2.1+Int.toNat x.2.2.2.2.2.2.2.2.2.1+1)
def zNG (x:zqD) (y:Unit):Nat:=(Int.toNat x.1+x.2.1.length+Int.toNat x.2.2.1+Int.toNat x.2.2.2.1+x.2.2.2.2.1.length+Int.toNat x.2.2.2.2.2.1+Int.toNat x.2.2.2.2.2.2.1+1)
def zM9 (x:zqZ) (y:Unit):Nat:=(Int.toNat x.1+x.2.1.length+Int.toNat x.2.2.1+Int.toNat x.2.2.2.1+1)
def zju (zq:yB->Bool×Int):=zb4 base 62 [(160,(zns zq))] [] [(3,(kpL [3,12,13,14])),(7,(kpL [3,12,13,14,25,26,27])),(10,(kpL [3,7,12,13,14,25,26,27,33,34,35])),(15,(kpL [3,12,13,14,25,26,27,46,47,48]))] [(3,1,(kpL [3])),(7,3,(kpL [3,12,13,14])),(10,5,(kpL [3,7,12,13,14,25,26,27])),(15,7,(kpL [3,12,13,14,25,26,27]))] [(10,spW zMl zNj (zsE zq) default zLr zKy),(15,spW zM4 z0j (zsw zq) default zKx zLB),(7,spW zOo z0j (ztg zq) default zML zNG),(3,spW zOS z0j (ztN zq) default zMt zM9)] []
theorem zKO (zq:yB->Bool×Int):zM (zju zq) (lp (body f160) 2):=zu (id:=10) (hl:=rfl)
theorem zLH (zq:yB->Bool×Int):zM (zju zq) (lp (body f160) 3):=zu (id:=15) (hl:=rfl)
theorem zLT (zq:yB->Bool×Int):zM (zju zq) (lp (body f160) 1):=zu (id:=7) (hl:=rfl)
theorem zNq (zq:yB->Bool×Int):zM (zju zq) (lp (body f160) 0):=zu (id:=3) (hl:=rfl)
def zB3 (zq:yB->Bool×Int) (a:yB):Wy0 (Int):=.bn (zAP zq (Int.toNat 0+a.length+(Int.ofNat a.length).toNat +Int.toNat 0+1) 0 a (Int.ofNat a.length) 0) λr10=>.k r10
def zrV (zq:yB->Bool×Int) (a:yB):=(zB3 zq a).fin default
theorem zIy (zq:yB->Bool×Int) (zRb:SdP 160 (zns zq)):SdP 160 (zns (zrV zq)):=
 sT (cx':=(zju zq)) (zk ⟨zRb,trivial⟩) call160 func160 (lOK (aC (zNq zq) (aC (zLT zq) (aC (zKO zq) (aC (zLH zq) aN)))))
def z1K:Nat->(yB->Bool×Int)
 | 0=>λ_=>(false,default)
 | n+1=>zrV (z1K n)
def zj0 (n:Nat):yB->Bool×Int:=z1K n
theorem zN1 (n:Nat):zj0 (n+1)=zrV (zj0 n):=rfl
theorem zYs:∀ n,SdP 160 (zns (zj0 n))
 | 0=>zbl call160 (λ_=>rfl)
 | n+1=>by
  have ih:=zYs n;exact zIy _ (ih)
def zAx:yB->Bool×Int:=zj0 1000
def zBj:Ab.Spec ty:=zns zAx
theorem zMQ:SdP 160 zBj:=(zYs 1000)
abbrev zmb:=Int×Unit×Int×yB×Int×Int×yC×Int×Int×yA×Int×Int×Unit
abbrev zza:=Int×Int×yB×Int×Int×yC×Int×Int×Fc
abbrev zmd:=Int×Int×yB×Int×Int×yC×Int×Int×yD×Int×Int×Unit
abbrev zzP:=Int×Int×yB×Int×Int×yC×Int×Int
abbrev zmz:=Int×yB×Int×Int×yC×Int×Int×Unit
abbrev zzr:=Int×yB×Int×Int
abbrev zmD:=Int×yB×Int×Int×Unit
def zgS (zl:yB->Bool×Int) (n_:Int) (inner:Int) (t13:yB) (t14:Int) (t15:Int) (t20:yC) (t21:Int) (t22:Int) (t32:yA) (t33:Int) (t34:Int) (f:Fc):Wy zmb (Fc×Unit) zza:=.i (decide (t34<t33)) (.i (decide (0<=t34)&&decide (t34<Int.ofNat t32.length)) (.bn (zl (t32.getD t34.toNat default)) λr0=>.h (n_,(),(if r0>inner then r0 else inner),t13,t14,t15,t20,t21,t22,t32,t33,(IntKind.i64.wrap (t34+1)),()) (f,())) .d) (.k (n_,inner,t13,t14,t15,t20,t21,t22,f))
def zoD (zl:yB->Bool×Int) (x:zmb) (y:Fc×Unit):=zgS zl x.1 x.2.2.1 x.2.2.2.1 x.2.2.2.2.1 x.2.2.2.2.2.1 x.2.2.2.2.2.2.1 x.2.2.2.2.2.2.2.1 x.2.2.2.2.2.2.2.2.1 x.2.2.2.2.2.2.2.2.2.1 x.2.2.2.2.2.2.2.2.2.2.1 x.2.2.2.2.2.2.2.2.2.2.2.1 y.1
def zwx (zl:yB->Bool×Int) (n:Nat) (n_:Int) (inner:Int) (t13:yB) (t14:Int) (t15:Int) (t20:yC) (t21:Int) (t22:Int) (t32:yA) (t33:Int) (t34:Int) (f:Fc):=zD (zoD zl) default n (n_,(),inner,t13,t14,t15,t20,t21,t22,t32,t33,t34,()) (f,())
def zGg (r:zza):LTree ty:=.done (.exit 4) [.lit (.int .i64 r.1),.ptr 256 0,.lit (.int .i64 r.2.1),.sl 107 r.2.2.1,.lit (.int .i64 r.2.2.2.1),.lit (.int .i64 r.2.2.2.2.1),.sl 145 r.2.2.2.2.2.1,.lit (.int .i64 r.2.2.2.2.2.2.1),.lit (.int .i64 r.2.2.2.2.2.2.2.1)] [.box (base.enc 145 r.2.2.2.2.2.2.2.2) false]
def zHS:LL ty zmb:=za zj (za (zde 256 0) (za zj (za (lSl 107) (za zj (za zj (za (lSl 145) (za zj (za zj (za (lSl 51) (za zj (za zj zn)))))))))))
def zgI (zl:yB->Bool×Int) (n_:Int) (inner:Int) (t13:yB) (t14:Int) (t15:Int) (t20:yC) (t21:Int) (t22:Int) (t45:yD) (t46:Int) (t47:Int):Wy zmd Unit zzP:=.i (decide (t47<t46)) (.i (decide (0<=t47)&&decide (t47<Int.ofNat t45.length)) (.bn (zl (t45.getD t47.toNat default).Ann) λr2=>.h (n_,(if r2>inner then r2 else inner),t13,t14,t15,t20,t21,t22,t45,t46,(IntKind.i64.wrap (t47+1)),()) ()) .d) (.k (n_,inner,t13,t14,t15,t20,t21,t22))
def zoB (zl:yB->Bool×Int) (x:zmd) (y:Unit):=zgI zl x.1 x.2.1 x.2.2.1 x.2.2.2.1 x.2.2.2.2.1 x.2.2.2.2.2.1 x.2.2.2.2.2.2.1 x.2.2.2.2.2.2.2.1 x.2.2.2.2.2.2.2.2.1 x.2.2.2.2.2.2.2.2.2.1 x.2.2.2.2.2.2.2.2.2.2.1
def zwL (zl:yB->Bool×Int) (n:Nat) (n_:Int) (inner:Int) (t13:yB) (t14:Int) (t15:Int) (t20:yC) (t21:Int) (t22:Int) (t45:yD) (t46:Int) (t47:Int):=zD (zoB zl) default n (n_,inner,t13,t14,t15,t20,t21,t22,t45,t46,t47,()) ()
def zGm (r:zzP):LTree ty:=.done (.exit 6) [.lit (.int .i64 r.1),.lit (.int .i64 r.2.1),.sl 107 r.2.2.1,.lit (.int .i64 r.2.2.2.1),.lit (.int .i64 r.2.2.2.2.1),.sl 145 r.2.2.2.2.2.1,.lit (.int .i64 r.2.2.2.2.2.2.1),.lit (.int .i64 r.2.2.2.2.2.2.2)] []
def zHc:LL ty zmd:=za zj (za zj (za (lSl 107) (za zj (za zj (za (lSl 145) (za zj (za zj (za (lSl 169) (za zj (za zj zn))))))))))
def zhG (zl:yB->Bool×Int) (n_:Int) (t13:yB) (t14:Int) (t15:Int) (t20:yC) (t21:Int) (t22:Int):Wy zmz Unit zzr:=.i (decide (t22<t21)) (.i (decide (0<=t22)&&decide (t22<Int.ofNat t20.length)) (.i ((t20.getD t22.toNat default).At.Kind==0) (.h (n_,t13,t14,t15,t20,t21,(IntKind.i64.wrap (t22+1)),()) ()) (.bn (zwx zl (n_.toNat +Int.toNat 0+t13.length+t14.toNat +t15.toNat +t20.length+t21.toNat +t22.toNat +(t20.getD t22.toNat default).At.Ag.length+(Int.ofNat (t20.getD t22.toNat default).At.Ag.length).toNat +Int.toNat 0+(t20.getD t22.toNat default).At.Ag.length+(t20.getD t22.toNat default).At.Items.length+1) n_ 0 t13 t14 t15 t20 t21 t22 (t20.getD t22.toNat default).At.Ag (Int.ofNat (t20.getD t22.toNat default).At.Ag.length) 0 (FO.mk (At.mk (t20.getD t22.toNat default).At.Kind (t20.getD t22.toNat default).At.Row (t20.getD t22.toNat default).At.Ag (t20.getD t22.toNat default).At.Func (t20.getD t22.toNat default).At.Items (t20.getD t22.toNat default).At.Op (t20.getD t22.toNat default).At.Bd) (t20.getD t22.toNat default).Exp)) λr5=>.bn (zwL zl (r5.1.toNat +r5.2.1.toNat +r5.2.2.1.length+r5.2.2.2.1.toNat +r5.2.2.2.2.1.toNat +r5.2.2.2.2.2.1.length+r5.2.2.2.2.2.2.1.toNat +r5.2.2.2.2.2.2.2.1.toNat +r5.2.2.2.2.2.2.2.2.At.Items.length+(Int.ofNat r5.2.2.2.2.2.2.2.2.At.Items.length).toNat +Int.toNat 0+1) r5.1 r5.2.1 r5.2.2.1 r5.2.2.2.1 r5.2.2.2.2.1 r5.2.2.2.2.2.1 r5.2.2.2.2.2.2.1 r5.2.2.2.2.2.2.2.1 r5.2.2.2.2.2.2.2.2.At.Items (Int.ofNat r5.2.2.2.2.2.2.2.2.At.Items.length) 0) λr4=>.h ((if IntKind.i64.wrap (1+r4.2.1)>r4.1 then IntKind.i64.wrap (1+r4.2.1) else r4.1),(r4.2.2.1),(r4.2.2.2.1),(r4.2.2.2.2.1),(r4.2.2.2.2.2.1),(r4.2.2.2.2.2.2.1),(IntKind.i64.wrap (r4.2.2.2.2.2.2.2+1)),()) ())) .d) (.k (n_,t13,t14,t15))
def zpX (zl:yB->Bool×Int) (x:zmz) (y:Unit):=zhG zl x.1 x.2.1 x.2.2.1 x.2.2.2.1 x.2.2.2.2.1 x.2.2.2.2.2.1 x.2.2.2.2.2.2.1
def zxr (zl:yB->Bool×Int) (n:Nat) (n_:Int) (t13:yB) (t14:Int) (t15:Int) (t20:yC) (t21:Int) (t22:Int):=zD (zpX zl) default n (n_,t13,t14,t15,t20,t21,t22,()) ()
def zHQ (r:zzr):LTree ty:=.done (.exit 2) [.lit (.int .i64 r.1),.sl 107 r.2.1,.lit (.int .i64 r.2.2.1),.lit (.int .i64 r.2.2.2)] []
def zJh:LL ty zmz:=za zj (za (lSl 107) (za zj (za zj (za (lSl 145) (za zj (za zj zn))))))
def zhK (zl:yB->Bool×Int) (n_:Int) (t13:yB) (t14:Int) (t15:Int):Wy zmD Unit (Int):=.i (decide (t15<t14)) (.i (decide (0<=t15)&&decide (t15<Int.ofNat t13.length)) (.bn (zxr zl (n_.toNat +t13.length+t14.toNat +t15.toNat +(t13.getD t15.toNat default).Fs.length+(Int.ofNat (t13.getD t15.toNat default).Fs.length).toNat +Int.toNat 0+1) n_ t13 t14 t15 (t13.getD t15.toNat default).Fs (Int.ofNat (t13.getD t15.toNat default).Fs.length) 0) λr8=>.h ((r8.1),(r8.2.1),(r8.2.2.1),(IntKind.i64.wrap (r8.2.2.2+1)),()) ()) .d) (.k n_)
def zpM (zl:yB->Bool×Int) (x:zmD) (y:Unit):=zhK zl x.1 x.2.1 x.2.2.1 x.2.2.2.1
def zxp (zl:yB->Bool×Int) (n:Nat) (n_:Int) (t13:yB) (t14:Int) (t15:Int):=zD (zpM zl) default n (n_,t13,t14,t15,()) ()
def zJf:LL ty zmD:=za zj (za (lSl 107) (za zj (za zj zn)))
def zGe (x:zmb) (y:Fc×Unit):Nat:=(Int.toNat x.1+Int.toNat x.2.2.1+x.2.2.2.1.length+Int.toNat x.2.2.2.2.1+Int.toNat x.2.2.2.2.2.1+x.2.2.2.2.2.2.1.length+Int.toNat x.2.2.2.2.2.2.2.1+Int.toNat x.2.2.2.2.2.2.2.2.1+x.2.2.2.2.2.2.2.2.2.1.length+Int.toNat x.2.2.2.2.2.2.2.2.2.2.1+Int.toNat x.2.2.2.2.2.2.2.2.2.2.2.1+y.1.At.Ag.length+y.1.At.Items.length+1)
def zFT (x:zmd) (y:Unit):Nat:=(Int.toNat x.1+Int.toNat x.2.1+x.2.2.1.length+Int.toNat x.2.2.2.1+Int.toNat x.2.2.2.2.1+x.2.2.2.2.2.1.length+Int.toNat x.2.2.2.2.2.2.1+Int.toNat x.2.2.2.2.2.2.2.1+x.2.2.2.2.2.2.2.2.1.length+Int.toNat x.2.2.2.2.2.2.2.2.2.1+Int.toNat x.2.2.2.2.2.2.2.2.2.2.1+1)
def zGM (x:zmz) (y:Unit):Nat:=(Int.toNat x.1+x.2.1.length+Int.toNat x.2.2.1+Int.toNat x.2.2.2.1+x.2.2.2.2.1.length+Int.toNat x.2.2.2.2.2.1+Int.toNat x.2.2.2.2.2.2.1+1)
def zH5 (x:zmD) (y:Unit):Nat:=(Int.toNat x.1+x.2.1.length+Int.toNat x.2.2.1+Int.toNat x.2.2.2.1+1)
def zhF (zl:yB->Bool×Int):=zb4 base 64 [(159,(zns zl))] [] [(3,(kpL [3,13,14,15])),(6,(kpL [3,13,14,15,20,21,22])),(11,(kpL [3,7,8,13,14,15,20,21,22,32,33,34])),(16,(kpL [3,8,13,14,15,20,21,22,45,46,47]))] [(3,1,(kpL [3])),(6,3,(kpL [3,13,14,15])),(11,5,(kpL [3,7,8,13,14,15,20,21,22])),(16,7,(kpL [3,8,13,14,15,20,21,22]))] [(11,spW zHS zNj (zoD zl) default zGg zGe),(16,spW zHc z0j (zoB zl) default zGm zFT),(6,spW zJh z0j (zpX zl) default zHQ zGM),(3,spW zJf z0j (zpM zl) default zMt zH5)] []
theorem zFQ (zl:yB->Bool×Int):zM (zhF zl) (lp (body f159) 2):=zu (id:=11) (hl:=rfl)
theorem zF6 (zl:yB->Bool×Int):zM (zhF zl) (lp (body f159) 3):=zu (id:=16) (hl:=rfl)
theorem zGO (zl:yB->Bool×Int):zM (zhF zl) (lp (body f159) 1):=zu (id:=6) (hl:=rfl)
theorem zIh (zl:yB->Bool×Int):zM (zhF zl) (lp (body f159) 0):=zu (id:=3) (hl:=rfl)
def zyj (zl:yB->Bool×Int) (a:yB):Wy0 (Int):=.bn (zxp zl (Int.toNat 0+a.length+(Int.ofNat a.length).toNat +Int.toNat 0+1) 0 a (Int.ofNat a.length) 0) λr10=>.k r10
def znK (zl:yB->Bool×Int) (a:yB):=(zyj zl a).fin default
theorem zEX (zl:yB->Bool×Int) (zLh:SdP 159 (zns zl)):SdP 159 (zns (znK zl)):=
 sT (cx':=(zhF zl)) (zk ⟨zLh,trivial⟩) call159 func159 (lOK (aC (zIh zl) (aC (zGO zl) (aC (zFQ zl) (aC (zF6 zl) aN)))))
def zVx:Nat->(yB->Bool×Int)
 | 0=>λ_=>(false,default)
 | n+1=>znK (zVx n)
def zfn (n:Nat):yB->Bool×Int:=zVx n
theorem zIL (n:Nat):zfn (n+1)=znK (zfn n):=rfl
theorem zPX:∀ n,SdP 159 (zns (zfn n))
 | 0=>zbl call159 (λ_=>rfl)
 | n+1=>by
  have ih:=zPX n;exact zEX _ (ih)
def zwl:yB->Bool×Int:=zfn 1000
def zxo:Ab.Spec ty:=zns zwl
theorem zHW:SdP 159 zxo:=(zPX 1000)
def zEJ:=zbG base 13 []
def zvA (f:Fc):Wy0 (Bool):=.i (decide (f.Exp>64)) (.k true) (.k (decide (Int.ofNat f.At.Items.length>1024)))
def zfj (f:Fc):=(zvA f).fin default
def zGr:AL base (Fc×Unit):=zd (zg (zcj 145)) zw
def zhk:=zh zGr λx=>((zfj x.1).1,zQZ (zfj x.1).2)
theorem zkd:SdP 164 zhk:=
 sT (cx':=zEJ) (zk trivial) call164 func164 (lOK aN)
abbrev zdD:=yC×Unit×Int×Int×Unit
def zh7 (s:yC) (t7:Int) (t8:Int):Wy zdD Unit (Int⊕Unit):=.i (decide (t8<t7)) (.i (decide (0<=t8)&&decide (t8<Int.ofNat s.length)) (.bn (zfj (FO.mk (At.mk (s.getD t8.toNat default).At.Kind (s.getD t8.toNat default).At.Row (s.getD t8.toNat default).At.Ag (s.getD t8.toNat default).At.Func (s.getD t8.toNat default).At.Items (s.getD t8.toNat default).At.Op (s.getD t8.toNat default).At.Bd) (s.getD t8.toNat default).Exp)) λr0=>.i (r0) (.k (.inl t8)) (.h (s,(),t7,(IntKind.i64.wrap (t8+1)),()) ())) .d) (.k (.inr ()))
def zc1 (x:zdD) (y:Unit):=zh7 x.1 x.2.2.1 x.2.2.2.1
def zh9 (n:Nat) (s:yC) (t7:Int) (t8:Int):=zD (zc1) (.inl default) n (s,(),t7,t8,()) ()
def zpL (r:Int⊕Unit):LTree ty:=.ite (isL r) (.done .ret [.lit (.int .i64 (getL r))] []) (.done (.exit 0) [] [])
def zq8:LL ty zdD:=za (lSl 145) (za (lFn 164 (zn)) (za zj (za zj zn)))
def zp8 (x:zdD) (y:Unit):Nat:=(x.1.length+Int.toNat x.2.2.1+Int.toNat x.2.2.2.1+1)
def zh5:=zb4 base 19 [(164,zhk)] [] [(2,(kpL [0,1,7,8]))] [(2,1,[]),(2,0,(kpL [4]))] [(2,spW zq8 z0j (zc1) (.inl default) zpL zp8)] []
theorem zp3:zM zh5 (lp (body f222) 0):=zu (id:=2) (hl:=rfl)
def zij (s:yC):Wy0 (Int):=.bn (zh9 (s.length+(Int.ofNat s.length).toNat +Int.toNat 0+1) s (Int.ofNat s.length) 0) λr2=>.i (isL r2) (.k (getL r2)) (.k (-1:Int))
def zcA (s:yC):=(zij s).fin default
def zrn:AL base (yC×Unit×Unit):=zd (zg (vSl 145)) (zd (zg (vFn 164 zcr)) zw)
def zg8:=zh zrn λx=>((zcA x.1).1,zLf (zcA x.1).2)
theorem zoY:SdP 222 zg8:=
 sT (cx':=zh5) (zk ⟨zkd,trivial⟩) call222 func222 (lOK (aC zp3 aN))
def zoF:=zbG base 9 [(164,zhk),(222,zg8)]
def zhd (s:yC):Wy0 (Bool):=.bn (zcA s) λr0=>.k (decide (r0≥0))
def zcg (s:yC):=(zhd s).fin default
def zgi:=zh zrn λx=>((zcg x.1).1,zQZ (zcg x.1).2)
theorem zm4:SdP 163 zgi:=
 sT (cx':=zoF) (zk ⟨zkd,zoY,trivial⟩) call163 func163 (lOK aN)
def zIH:=zbG base 12 [(163,zgi),(164,zhk)]
def zxR (t:Term):Wy0 (Bool):=.i (decide (Int.ofNat t.Fs.length>64)) (.k true) (.bn (zcg t.Fs) λr0=>.k r0)
def zjC (t:Term):=(zxR t).fin default
def zKz:AL base (Term×Unit):=zd (zg (zcj 107)) zw
def zjb:=zh zKz λx=>((zjC x.1).1,zQZ (zjC x.1).2)
theorem zmM:SdP 162 zjb:=
 sT (cx':=zIH) (zk ⟨zm4,zkd,trivial⟩) call162 func162 (lOK aN)
abbrev zdt:=yB×Unit×Int×Int×Unit
def zpO (s:yB) (t7:Int) (t8:Int):Wy zdt Unit (Int⊕Unit):=.i (decide (t8<t7)) (.i (decide (0<=t8)&&decide (t8<Int.ofNat s.length)) (.bn (zjC (s.getD t8.toNat default)) λr0=>.i (r0) (.k (.inl t8)) (.h (s,(),t7,(IntKind.i64.wrap (t8+1)),()) ())) .d) (.k (.inr ()))
def zhL (x:zdt) (y:Unit):=zpO x.1 x.2.2.1 x.2.2.2.1
def zpP (n:Nat) (s:yB) (t7:Int) (t8:Int):=zD (zhL) (.inl default) n (s,(),t7,t8,()) ()
def zpN:LL ty zdt:=za (lSl 107) (za (lFn 162 (zn)) (za zj (za zj zn)))
def zpi (x:zdt) (y:Unit):Nat:=(x.1.length+Int.toNat x.2.2.1+Int.toNat x.2.2.2.1+1)
def zhI:=zb4 base 19 [(162,zjb)] [] [(2,(kpL [0,1,7,8]))] [(2,1,[]),(2,0,(kpL [4]))] [(2,spW zpN z0j (zhL) (.inl default) zpL zpi)] []
theorem zpm:zM zhI (lp (body f221) 0):=zu (id:=2) (hl:=rfl)
def zqv (s:yB):Wy0 (Int):=.bn (zpP (s.length+(Int.ofNat s.length).toNat +Int.toNat 0+1) s (Int.ofNat s.length) 0) λr2=>.i (isL r2) (.k (getL r2)) (.k (-1:Int))
def zdd (s:yB):=(zqv s).fin default
def zqy:AL base (yB×Unit×Unit):=zd (zg (vSl 107)) (zd (zg (vFn 162 zcr)) zw)
def zgW:=zh zqy λx=>((zdd x.1).1,zLf (zdd x.1).2)
theorem zon:SdP 221 zgW:=
 sT (cx':=zhI) (zk ⟨zmM,trivial⟩) call221 func221 (lOK (aC zpm aN))
def zoi:=zbG base 9 [(162,zjb),(221,zgW)]
def zgZ (s:yB):Wy0 (Bool):=.bn (zdd s) λr0=>.k (decide (r0≥0))
def zb9 (s:yB):=(zgZ s).fin default
def zfS:=zh zqy λx=>((zb9 x.1).1,zQZ (zb9 x.1).2)
theorem zmR:SdP 161 zfS:=
 sT (cx':=zoi) (zk ⟨zmM,zon,trivial⟩) call161 func161 (lOK aN)
def zNO:=zbG base 19 [(159,zxo),(160,zBj),(161,zfS),(162,zjb)]
def zB0 (a:yB):Wy0 (Bool):=.i (decide (Int.ofNat a.length>512)) (.k false) (.bn (zwl a) λr2=>.i (decide (r2>8)) (.k false) (.bn (zAx a) λr1=>.i (decide (r1>4096)) (.k false) (.bn (zb9 a) λr0=>.k (!r0))))
def zjZ (a:yB):=(zB0 a).fin default
def zru:=zh zTC λx=>((zjZ x.1).1,zQZ (zjZ x.1).2)
theorem zxf:SdP 103 zru:=
 sT (cx':=zNO) (zk ⟨zHW,zMQ,zmR,zmM,trivial⟩) call103 func103 (lOK aN)
abbrev zph:=yB×Unit×yB×Int×Int×yC×Int×Int×Unit
abbrev zBQ:=Bool⊕(yB×yB×Int×Int)
abbrev zo9:=yB×yB×Int×Int×Unit
def ziS (zA:At->Bool×Bool) (a:yB) (t10:yB) (t11:Int) (t12:Int) (t40:yC) (t41:Int) (t42:Int) (t:Term):Wy zph (Term×Unit) zBQ:=.i (decide (t42<t41)) (.i (decide (0<=t42)&&decide (t42<Int.ofNat t40.length)) (.i (decide ((t40.getD t42.toNat default).Exp<1)) (.k (.inl false)) (.bn (zeR (At.mk (t40.getD t42.toNat default).At.Kind (t40.getD t42.toNat default).At.Row (t40.getD t42.toNat default).At.Ag (t40.getD t42.toNat default).At.Func (t40.getD t42.toNat default).At.Items (t40.getD t42.toNat default).At.Op (t40.getD t42.toNat default).At.Bd)) λr6=>.i (r6) (.i ((t40.getD t42.toNat default).Exp != 1) (.k (.inl false)) (.i (decide (t42>0)) (.i (decide (0<=IntKind.i64.wrap (t42 - 1))&&decide (IntKind.i64.wrap (t42 - 1)<Int.ofNat t.Fs.length)) (.bn (zhC (At.mk (t.Fs.getD (IntKind.i64.wrap (t42 - 1)).toNat default).At.Kind (t.Fs.getD (IntKind.i64.wrap (t42 - 1)).toNat default).At.Row (t.Fs.getD (IntKind.i64.wrap (t42 - 1)).toNat default).At.Ag (t.Fs.getD (IntKind.i64.wrap (t42 - 1)).toNat default).At.Func (t.Fs.getD (IntKind.i64.wrap (t42 - 1)).toNat default).At.Items (t.Fs.getD (IntKind.i64.wrap (t42 - 1)).toNat default).At.Op (t.Fs.getD (IntKind.i64.wrap (t42 - 1)).toNat default).At.Bd) (At.mk (t40.getD t42.toNat default).At.Kind (t40.getD t42.toNat default).At.Row (t40.getD t42.toNat default).At.Ag (t40.getD t42.toNat default).At.Func (t40.getD t42.toNat default).At.Items (t40.getD t42.toNat default).At.Op (t40.getD t42.toNat default).At.Bd)) λr1=>.i (decide (r1≥0)) (.k (.inl false)) (.bn (zA (At.mk (t40.getD t42.toNat default).At.Kind (t40.getD t42.toNat default).At.Row (t40.getD t42.toNat default).At.Ag (t40.getD t42.toNat default).At.Func (t40.getD t42.toNat default).At.Items (t40.getD t42.toNat default).At.Op (t40.getD t42.toNat default).At.Bd)) λr0=>.i (!r0) (.k (.inl false)) (.h (a,(),t10,t11,t12,t40,t41,(IntKind.i64.wrap (t42+1)),()) (t,())))) .d) (.bn (zA (At.mk (t40.getD t42.toNat default).At.Kind (t40.getD t42.toNat default).At.Row (t40.getD t42.toNat default).At.Ag (t40.getD t42.toNat default).At.Func (t40.getD t42.toNat default).At.Items (t40.getD t42.toNat default).At.Op (t40.getD t42.toNat default).At.Bd)) λr2=>.i (!r2) (.k (.inl false)) (.h (a,(),t10,t11,t12,t40,t41,(IntKind.i64.wrap (t42+1)),()) (t,()))))) (.i (decide (t42>0)) (.i (decide (0<=IntKind.i64.wrap (t42 - 1))&&decide (IntKind.i64.wrap (t42 - 1)<Int.ofNat t.Fs.length)) (.bn (zhC (At.mk (t.Fs.getD (IntKind.i64.wrap (t42 - 1)).toNat default).At.Kind (t.Fs.getD (IntKind.i64.wrap (t42 - 1)).toNat default).At.Row (t.Fs.getD (IntKind.i64.wrap (t42 - 1)).toNat default).At.Ag (t.Fs.getD (IntKind.i64.wrap (t42 - 1)).toNat default).At.Func (t.Fs.getD (IntKind.i64.wrap (t42 - 1)).toNat default).At.Items (t.Fs.getD (IntKind.i64.wrap (t42 - 1)).toNat default).At.Op (t.Fs.getD (IntKind.i64.wrap (t42 - 1)).toNat default).At.Bd) (At.mk (t40.getD t42.toNat default).At.Kind (t40.getD t42.toNat default).At.Row (t40.getD t42.toNat default).At.Ag (t40.getD t42.toNat default).At.Func (t40.getD t42.toNat default).At.Items (t40.getD t42.toNat default).At.Op (t40.getD t42.toNat default).At.Bd)) λr4=>.i (decide (r4≥0)) (.k (.inl false)) (.bn (zA (At.mk (t40.getD t42.toNat default).At.Kind (t40.getD t42.toNat default).At.Row (t40.getD t42.toNat default).At.Ag (t40.getD t42.toNat default).At.Func (t40.getD t42.toNat default).At.Items (t40.getD t42.toNat default).At.Op (t40.getD t42.toNat default).At.Bd)) λr3=>.i (!r3) (.k (.inl false)) (.h (a,(),t10,t11,t12,t40,t41,(IntKind.i64.wrap (t42+1)),()) (t,())))) .d) (.bn (zA (At.mk (t40.getD t42.toNat default).At.Kind (t40.getD t42.toNat default).At.Row (t40.getD t42.toNat default).At.Ag (t40.getD t42.toNat default).At.Func (t40.getD t42.toNat default).At.Items (t40.getD t42.toNat default).At.Op (t40.getD t42.toNat default).At.Bd)) λr5=>.i (!r5) (.k (.inl false)) (.h (a,(),t10,t11,t12,t40,t41,(IntKind.i64.wrap (t42+1)),()) (t,())))))) .d) (.k (.inr (a,t10,t11,t12)))
def zsm (zA:At->Bool×Bool) (x:zph) (y:Term×Unit):=ziS zA x.1 x.2.2.1 x.2.2.2.1 x.2.2.2.2.1 x.2.2.2.2.2.1 x.2.2.2.2.2.2.1 x.2.2.2.2.2.2.2.1 y.1
def zsA (zA:At->Bool×Bool) (n:Nat) (a:yB) (t10:yB) (t11:Int) (t12:Int) (t40:yC) (t41:Int) (t42:Int) (t:Term):=zD (zsm zA) (.inl default) n (a,(),t10,t11,t12,t40,t41,t42,()) (t,())
def zLo (r:zBQ):LTree ty:=.ite (isL r) (.done .ret [.lit (.bool (getL r))] []) (.done (.exit 2) [.sl 107 (getR r).1,.sl 107 (getR r).2.1,.lit (.int .i64 (getR r).2.2.1),.lit (.int .i64 (getR r).2.2.2)] [])
def zNt:LL ty zph:=za (lSl 107) (za (zde 340 0) (za (lSl 107) (za zj (za zj (za (lSl 145) (za zj (za zj zn)))))))
def zMn:BL ty (Term×Unit):=zev (zgF (λx=>(⟨x.1,x.2.1⟩:Term)) (λx=>(x.Cf,x.Fs,())) (λ_=>rfl) (za (zN .i64) (za (lSl 145) zn))) false (zbd)
def ziO (zA:At->Bool×Bool) (a:yB) (t10:yB) (t11:Int) (t12:Int):Wy zo9 Unit (Bool⊕Unit):=.i (decide (t12<t11)) (.i (decide (0<=t12)&&decide (t12<Int.ofNat t10.length)) (.i (decide ((t10.getD t12.toNat default).Cf<1)) (.k (.inl false)) (.i (decide ((t10.getD t12.toNat default).Cf>1152921504606846976)) (.k (.inl false)) (.i (decide (t12>0)) (.i (decide (0<=IntKind.i64.wrap (t12 - 1))&&decide (IntKind.i64.wrap (t12 - 1)<Int.ofNat a.length)) (.bn (zb7 (a.getD (IntKind.i64.wrap (t12 - 1)).toNat default) (t10.getD t12.toNat default)) λr15=>.i (decide (r15≥0)) (.k (.inl false)) (.bn (zsA zA (a.length+t10.length+t11.toNat +t12.toNat +(t10.getD t12.toNat default).Fs.length+(Int.ofNat (t10.getD t12.toNat default).Fs.length).toNat +Int.toNat 0+(t10.getD t12.toNat default).Fs.length+1) a t10 t11 t12 (t10.getD t12.toNat default).Fs (Int.ofNat (t10.getD t12.toNat default).Fs.length) 0 (t10.getD t12.toNat default)) λr14=>.i (isL r14) (.k (.inl (getL r14))) (.h ((getR r14).1,(getR r14).2.1,(getR r14).2.2.1,(IntKind.i64.wrap ((getR r14).2.2.2+1)),()) ()))) .d) (.bn (zsA zA (a.length+t10.length+t11.toNat +t12.toNat +(t10.getD t12.toNat default).Fs.length+(Int.ofNat (t10.getD t12.toNat default).Fs.length).toNat +Int.toNat 0+(t10.getD t12.toNat default).Fs.length+1) a t10 t11 t12 (t10.getD t12.toNat default).Fs (Int.ofNat (t10.getD t12.toNat default).Fs.length) 0 (t10.getD t12.toNat default)) λr16=>.i (isL r16) (.k (.inl (getL r16))) (.h ((getR r16).1,(getR r16).2.1,(getR r16).2.2.1,(IntKind.i64.wrap ((getR r16).2.2.2+1)),()) ()))))) .d) (.k (.inr ()))
def zsn (zA:At->Bool×Bool) (x:zo9) (y:Unit):=ziO zA x.1 x.2.1 x.2.2.1 x.2.2.2.1
def zzE (zA:At->Bool×Bool) (n:Nat) (a:yB) (t10:yB) (t11:Int) (t12:Int):=zD (zsn zA) (.inl default) n (a,t10,t11,t12,()) ()
def zMD:LL ty zo9:=za (lSl 107) (za (lSl 107) (za zj (za zj zn)))
def zKX (x:zph) (y:Term×Unit):Nat:=(x.1.length+x.2.2.1.length+Int.toNat x.2.2.2.1+Int.toNat x.2.2.2.2.1+x.2.2.2.2.2.1.length+Int.toNat x.2.2.2.2.2.2.1+Int.toNat x.2.2.2.2.2.2.2.1+y.1.Fs.length+1)
def zKo (x:zo9) (y:Unit):Nat:=(x.1.length+x.2.1.length+Int.toNat x.2.2.1+Int.toNat x.2.2.2.1+1)
def zst (zA:At->Bool×Bool):=zb4 base 85 [(103,zru),(104,zhl),(105,ziq),(106,zkS),(107,(zlk zA))] [] [(4,(kpL [0,10,11,12])),(9,(kpL [0,4,10,11,12,40,41,42]))] [(4,1,[]),(4,0,(kpL [2])),(9,3,(kpL [0,10,11,12])),(9,0,(kpL [2]))] [(9,spW zNt zMn (zsm zA) (.inl default) zLo zKX),(4,spW zMD z0j (zsn zA) (.inl default) zlq zKo)] []
theorem zKg (zA:At->Bool×Bool):zM (zst zA) (lp (body f52) 1):=zu (id:=9) (hl:=rfl)
theorem zKG (zA:At->Bool×Bool):zM (zst zA) (lp (body f52) 0):=zu (id:=4) (hl:=rfl)
def zAZ (zA:At->Bool×Bool) (a:yB):Wy0 (Bool):=.bn (zjZ a) λr21=>.i (!r21) (.k false) (.bn (zzE zA (a.length+a.length+(Int.ofNat a.length).toNat +Int.toNat 0+1) a a (Int.ofNat a.length) 0) λr20=>.i (isL r20) (.k (getL r20)) (.k true))
def zlP (zA:At->Bool×Bool) (a:yB):=(zAZ zA a).fin default
theorem zHw (zA:At->Bool×Bool) (zHy:SdP 107 (zlk zA)):SdP 52 (zgN (zlP zA)):=
 sT (cx':=(zst zA)) (zk ⟨zxf,zki,zlv,zrF,zHy,trivial⟩) call52 func52 (lOK (aC (zKG zA) (aC (zKg zA) aN)))
def zZd:=zbG base 36 []
def zPY (v:Value):Wy0 (Bool):=.i (v.Kind==0) (.k (v.Text.toList==(ByteArray.mk #[]).toList)) (.i (v.Kind==1) (.i (v.Int==0) (.k (decide (Int.ofNat v.Text.size<=255))) (.k false)) (.i (v.Kind==2) (.i (v.Int==0) (.k (v.Text.toList==(ByteArray.mk #[]).toList)) (.i (v.Int==1) (.k (v.Text.toList==(ByteArray.mk #[]).toList)) (.k false))) (.k false)))
def zob (v:Value):=(zPY v).fin default
def z0L:AL base (Value×Unit):=zd (zg (zcj 79)) zw
def zoT:=zh z0L λx=>((zob x.1).1,zQZ (zob x.1).2)
theorem zrS:SdP 91 zoT:=
 sT (cx':=zZd) (zk trivial) call91 func91 (lOK aN)
def zGP:=zbG base 27 [(91,zoT)]
def zw7 (w:Wd) (p1:Value) (p2:Int):Wy0 (Bool):=.bn (zob w.Value) λr0=>.i (!r0) (.k true) (.i (w.Value.Kind != p1.Kind) (.k true) (.i (p2==0) (.k (w.Value.Int != 1)) (.k false)))
def zgn (w:Wd) (p1:Value) (p2:Int):=(zw7 w p1 p2).fin default
def zJr:AL base (Wd×Value×(Int×Unit)×Unit):=zd (zg (zcj 169)) (zd (zg (zYt 79)) (zd (zg (zYw (zrP ziy zcr))) zw))
def zit:=zh zJr λx=>((zgn x.1 x.2.1 x.2.2.1.1).1,zQZ (zgn x.1 x.2.1 x.2.2.1.1).2)
theorem zlN:SdP 229 zit:=
 sT (cx':=zGP) (zk ⟨zrS,trivial⟩) call229 func229 (lOK aN)
abbrev zc6:=yD×(Value×(Int×Unit)×Unit)×Int×Int×Unit
def zog (s:yD) (f_0:Value) (f_1:Int) (t7:Int) (t8:Int):Wy zc6 Unit (Int⊕Unit):=.i (decide (t8<t7)) (.i (decide (0<=t8)&&decide (t8<Int.ofNat s.length)) (.bn (zgn (s.getD t8.toNat default) f_0 f_1) λr0=>.i (r0) (.k (.inl t8)) (.h (s,(f_0,(f_1,()),()),t7,(IntKind.i64.wrap (t8+1)),()) ())) .d) (.k (.inr ()))
def zgo (x:zc6) (y:Unit):=zog x.1 x.2.1.1 x.2.1.2.1.1 x.2.2.1 x.2.2.2.1
def zow (n:Nat) (s:yD) (f_0:Value) (f_1:Int) (t7:Int) (t8:Int):=zD (zgo) (.inl default) n (s,(f_0,(f_1,()),()),t7,t8,()) ()
def zou:LL ty zc6:=za (lSl 169) (za (lFn 229 (za (zDo (zgF (λx=>(⟨x.1,x.2.1,x.2.2.1⟩:Value)) (λx=>(x.Kind,x.Int,x.Text,())) (λ_=>rfl) (za zj (za zj (za ztm zn)))) 0) (za (zDo (za zj zn) 0) zn))) (za zj (za zj zn)))
def znO (x:zc6) (y:Unit):Nat:=(x.1.length+Int.toNat x.2.1.2.1.1+Int.toNat x.2.2.1+Int.toNat x.2.2.2.1+1)
def zgs:=zb4 base 19 [(229,zit)] [] [(2,(kpL [0,1,7,8]))] [(2,1,[]),(2,0,(kpL [4]))] [(2,spW zou z0j (zgo) (.inl default) zpL znO)] []
theorem znW:zM zgs (lp (body f228) 0):=zu (id:=2) (hl:=rfl)
def zo8 (s:yD) (f_0:Value) (f_1:Int):Wy0 (Int):=.bn (zow (s.length+f_1.toNat +(Int.ofNat s.length).toNat +Int.toNat 0+1) s f_0 f_1 (Int.ofNat s.length) 0) λr2=>.i (isL r2) (.k (getL r2)) (.k (-1:Int))
def zcS (s:yD) (f_0:Value) (f_1:Int):=(zo8 s f_0 f_1).fin default
def zo6:AL base (yD×(Value×(Int×Unit)×Unit)×Unit):=zd (zg (vSl 169)) (zd (zg (vFn 229 (zrP (zYt 79) (zrP (zYw (zrP ziy zcr)) zcr)))) zw)
def zfT:=zh zo6 λx=>((zcS x.1 x.2.1.1 x.2.1.2.1.1).1,zLf (zcS x.1 x.2.1.1 x.2.1.2.1.1).2)
theorem zmO:SdP 228 zfT:=
 sT (cx':=zgs) (zk ⟨zlN,trivial⟩) call228 func228 (lOK (aC znW aN))
def zmP:=zbG base 9 [(228,zfT),(229,zit)]
def zfX (s:yD) (f_0:Value) (f_1:Int):Wy0 (Bool):=.bn (zcS s f_0 f_1) λr0=>.k (decide (r0≥0))
def zbn (s:yD) (f_0:Value) (f_1:Int):=(zfX s f_0 f_1).fin default
def ze9:=zh zo6 λx=>((zbn x.1 x.2.1.1 x.2.1.2.1.1).1,zQZ (zbn x.1 x.2.1.1 x.2.1.2.1.1).2)
theorem zk9:SdP 178 ze9:=
 sT (cx':=zmP) (zk ⟨zmO,zlN,trivial⟩) call178 func178 (lOK aN)
def zNu:=zbG base 43 [(91,zoT),(178,ze9),(229,zit)]
def zBr (fn:Int) (items:yD) (op:Int) (bound:Value):Wy0 (Bool):=.i (decide (fn<0)) (.k false) (.i (decide (fn>3)) (.k false) (.i (decide (op<5)) (.k false) (.i (decide (op>10)) (.k false) (.bn (zob bound) λr3=>.i (!r3) (.k false) (.i (fn==0) (.i (bound.Kind != 0) (.k false) (.bn (zbn items bound fn) λr0=>.k (!r0))) (.i (fn==1) (.i (bound.Kind != 0) (.k false) (.bn (zbn items bound fn) λr1=>.k (!r1))) (.bn (zbn items bound fn) λr2=>.k (!r2))))))))
def ziR (fn:Int) (items:yD) (op:Int) (bound:Value):=(zBr fn items op bound).fin default
def zOO:AL base (Int×yD×Int×Value×Unit):=zd (zg ziy) (zd (zg (vSl 169)) (zd (zg ziy) (zd (zg (zcj 79)) zw)))
def zqe:=zh zOO λx=>((ziR x.1 x.2.1 x.2.2.1 x.2.2.2.1).1,zQZ (ziR x.1 x.2.1 x.2.2.1 x.2.2.2.1).2)
theorem zwb:SdP 181 zqe:=
 sT (cx':=zNu) (zk ⟨zrS,zk9,zlN,trivial⟩) call181 func181 (lOK aN)
def zCd:=zbG base 7 []
def ztc (t:Term):Wy0 (Bool):=.k (Int.ofNat t.Fs.length==0)
def zge (t:Term):=(ztc t).fin default
def zgd:=zh zKz λx=>((zge x.1).1,zQZ (zge x.1).2)
theorem zjf:SdP 227 zgd:=
 sT (cx':=zCd) (zk trivial) call227 func227 (lOK aN)
abbrev zdv:=yB×Unit×Int×Int×Unit
def zpR (s:yB) (t7:Int) (t8:Int):Wy zdv Unit (Int⊕Unit):=.i (decide (t8<t7)) (.i (decide (0<=t8)&&decide (t8<Int.ofNat s.length)) (.i ((zge (s.getD t8.toNat default)).2) (.k (.inl t8)) (.h (s,(),t7,(IntKind.i64.wrap (t8+1)),()) ())) .d) (.k (.inr ()))
def zhD (x:zdv) (y:Unit):=zpR x.1 x.2.2.1 x.2.2.2.1
def zpS (n:Nat) (s:yB) (t7:Int) (t8:Int):=zD (zhD) (.inl default) n (s,(),t7,t8,()) ()
def zpI:LL ty zdv:=za (lSl 107) (za (lFn 227 (zn)) (za zj (za zj zn)))
def zpB (x:zdv) (y:Unit):Nat:=(x.1.length+Int.toNat x.2.2.1+Int.toNat x.2.2.2.1+1)
def zhA:=zb4 base 19 [(227,zgd)] [] [(2,(kpL [0,1,7,8]))] [(2,1,[]),(2,0,(kpL [4]))] [(2,spW zpI z0j (zhD) (.inl default) zpL zpB)] []
theorem zpu:zM zhA (lp (body f221) 0):=zu (id:=2) (hl:=rfl)
def zqV (s:yB):Wy0 (Int):=.bn (zpS (s.length+(Int.ofNat s.length).toNat +Int.toNat 0+1) s (Int.ofNat s.length) 0) λr0=>.i (isL r0) (.k (getL r0)) (.k (-1:Int))
def zdf (s:yB):=(zqV s).fin default
def zqs:AL base (yB×Unit×Unit):=zd (zg (vSl 107)) (zd (zg (vFn 227 zcr)) zw)
def zg1:=zh zqs λx=>((zdf x.1).1,zLf (zdf x.1).2)
theorem zoq:SdP 221 zg1:=
 sT (cx':=zhA) (zk ⟨zjf,trivial⟩) call221 func221 (lOK (aC zpu aN))
def zof:=zbG base 9 [(221,zg1),(227,zgd)]
def zgO (s:yB):Wy0 (Bool):=.bn (zdf s) λr0=>.k (decide (r0≥0))
def zcR (s:yB):=(zgO s).fin default
def zfY:=zh zqs λx=>((zcR x.1).1,zQZ (zcR x.1).2)
theorem zmH:SdP 161 zfY:=
 sT (cx':=zof) (zk ⟨zoq,zjf,trivial⟩) call161 func161 (lOK aN)
def zGt:=zbG base 5 [(161,zfY),(227,zgd)]
def zwN (a:yB):Wy0 (Bool):=.bn (zcR a) λr0=>.k r0
def zek (a:yB):=(zwN a).fin default
def zlO:=zh zTC λx=>((zek x.1).1,zQZ (zek x.1).2)
theorem zsx:SdP 177 zlO:=
 sT (cx':=zGt) (zk ⟨zmH,zjf,trivial⟩) call177 func177 (lOK aN)
def zHb:=zbG base 14 []
def zxw (a:yB):Wy0 (Bool):=.i (Int.ofNat a.length==1) (.i (decide ((0:Int)<=(0:Int))&&decide (0<Int.ofNat a.length)) (.k (Int.ofNat (a.getD (Int.toNat 0) default).Fs.length==0)) .d) (.k false)
def zgu (a:yB):=(zxw a).fin default
def zmQ:=zh zTC λx=>((zgu x.1).1,zQZ (zgu x.1).2)
theorem zs4:SdP 175 zmQ:=
 sT (cx':=zHb) (zk trivial) call175 func175 (lOK aN)
def zNV:=zbG base 42 [(105,ziq)]
def zBM (a:yB):Wy0 (Bool):=.i (Int.ofNat a.length != 1) (.k false) (.i (decide ((0:Int)<=(0:Int))&&decide (0<Int.ofNat a.length)) (.i ((a.getD (Int.toNat 0) default).Cf != 1) (.k false) (.i (decide ((0:Int)<=(0:Int))&&decide (0<Int.ofNat a.length)) (.i (Int.ofNat (a.getD (Int.toNat 0) default).Fs.length != 1) (.k false) (.i (decide ((0:Int)<=(0:Int))&&decide (0<Int.ofNat a.length)) (.i (decide ((0:Int)<=(0:Int))&&decide (0<Int.ofNat (a.getD (Int.toNat 0) default).Fs.length)) (.i (((a.getD (Int.toNat 0) default).Fs.getD (Int.toNat 0) default).Exp==1) (.i (((a.getD (Int.toNat 0) default).Fs.getD (Int.toNat 0) default).At.Kind==2) (.k true) (.bn (zeR (At.mk ((a.getD (Int.toNat 0) default).Fs.getD (Int.toNat 0) default).At.Kind ((a.getD (Int.toNat 0) default).Fs.getD (Int.toNat 0) default).At.Row ((a.getD (Int.toNat 0) default).Fs.getD (Int.toNat 0) default).At.Ag ((a.getD (Int.toNat 0) default).Fs.getD (Int.toNat 0) default).At.Func ((a.getD (Int.toNat 0) default).Fs.getD (Int.toNat 0) default).At.Items ((a.getD (Int.toNat 0) default).Fs.getD (Int.toNat 0) default).At.Op ((a.getD (Int.toNat 0) default).Fs.getD (Int.toNat 0) default).At.Bd)) λr0=>.k r0)) (.k false)) .d) .d)) .d)) .d)
def zj4 (a:yB):=(zBM a).fin default
def zro:=zh zTC λx=>((zj4 x.1).1,zQZ (zj4 x.1).2)
theorem zxs:SdP 176 zro:=
 sT (cx':=zNV) (zk ⟨zlv,trivial⟩) call176 func176 (lOK aN)
def zXp:=zbG base 11 []
def zMV (id:RowID):Wy0 (Bool):=.i (decide (id.Table≥1)) (.k (decide (id.Seq≥1))) (.k false)
def zoJ (id:RowID):=(zMV id).fin default
def zrW:=zh z3p λx=>((zoJ x.1).1,zQZ (zoJ x.1).2)
theorem zv9:SdP 116 zrW:=
 sT (cx':=zXp) (zk trivial) call116 func116 (lOK aN)
abbrev zd3:=yD×Unit×Int×Unit
def zdH (x_:yD) (i:Int):Wy zd3 Unit (Bool⊕Unit):=.i (decide (i>0)) (.i (decide (0<=i)&&decide (i<Int.ofNat x_.length)) (.i (decide (0<=IntKind.i64.wrap (i - 1))&&decide (IntKind.i64.wrap (i - 1)<Int.ofNat x_.length)) (.bn (zbo (x_.getD i.toNat default) (x_.getD (IntKind.i64.wrap (i - 1)).toNat default)) λr0=>.i (decide (r0<0)) (.k (.inl false)) (.h (x_,(),(IntKind.i64.wrap (i - 1)),()) ())) .d) .d) (.k (.inr ()))
def zgx (x:zd3) (y:Unit):=zdH x.1 x.2.2.1
def zdG (n:Nat) (x_:yD) (i:Int):=zD (zgx) (.inl default) n (x_,(),i,()) ()
def zox:LL ty zd3:=za (lSl 169) (za (lFn 172 (zn)) (za zj zn))
def zgw:=zb4 base 25 [(172,zeN)] [] [(2,(kpL [0,1,5]))] [(2,1,[]),(2,0,(kpL [4]))] [(2,spW zox z0j (zgx) (.inl default) zlq λx y=>(x.1.length+Int.toNat x.2.2.1+1))] []
theorem znz:zM zgw (lp (body f180) 0):=zu (id:=2) (hl:=rfl)
def zgL (x_:yD):Wy0 (Bool):=.bn (zdG (x_.length+(IntKind.i64.wrap (Int.ofNat x_.length - 1)).toNat +1) x_ (IntKind.i64.wrap (Int.ofNat x_.length - 1))) λr2=>.i (isL r2) (.k (getL r2)) (.k true)
def zb8 (x_:yD):=(zgL x_).fin default
def zo0:AL base (yD×Unit×Unit):=zd (zg (vSl 169)) (zd (zg (vFn 172 zcr)) zw)
def zfP:=zh zo0 λx=>((zb8 x.1).1,zQZ (zb8 x.1).2)
theorem zmU:SdP 180 zfP:=
 sT (cx':=zgw) (zk ⟨zgG,trivial⟩) call180 func180 (lOK (aC znz aN))
def zcC (zb:yA->Bool×Bool) (ze:yB->Bool×Bool) (zc:yD->Bool×Bool) (zf:Wd->Bool×Bool):=zbG base 149 [(115,zmo),(116,zrW),(172,zeN),(173,(zcd zb)),(174,(zgN ze)),(175,zmQ),(176,zro),(177,zlO),(178,(zcv zc)),(179,(zcZ zf)),(180,zfP),(181,zqe)]
def zb0 (zb:yA->Bool×Bool) (ze:yB->Bool×Bool) (zc:yD->Bool×Bool) (zf:Wd->Bool×Bool) (x_:At):Wy0 (Bool):=.i (x_.Kind==0) (.i (x_.Func != 0) (.k false) (.i (Int.ofNat x_.Items.length != 0) (.k false) (.i (x_.Op != 0) (.k false) (.i (!(x_.Bd.Kind==0&&(x_.Bd.Int==0&&(x_.Bd.Text.toList==(ByteArray.mk #[]).toList&&true)))) (.k false) (.bn (zb x_.Ag) λr1=>.i (r1) (.k false) (.bn (zoJ x_.Row) λr0=>.i (r0) (.k (Int.ofNat x_.Ag.length==0)) (.k false))))))) (.i (x_.Kind==1) (.i (x_.Func != 0) (.k false) (.i (Int.ofNat x_.Items.length != 0) (.k false) (.i (x_.Op != 0) (.k false) (.i (!(x_.Bd.Kind==0&&(x_.Bd.Int==0&&(x_.Bd.Text.toList==(ByteArray.mk #[]).toList&&true)))) (.k false) (.i (!(x_.Row.Table==0&&(x_.Row.Seq==0&&true))) (.k false) (.bn (zb x_.Ag) λr3=>.i (r3) (.k false) (.i (Int.ofNat x_.Ag.length==2) (.i (decide ((0:Int)<=(0:Int))&&decide (0<Int.ofNat x_.Ag.length)) (.i (decide ((0:Int)<=(1:Int))&&decide (1<Int.ofNat x_.Ag.length)) (.bn (zgP (x_.Ag.getD (Int.toNat 0) default) (x_.Ag.getD (Int.toNat 1) default)) λr2=>.k (!r2)) .d) .d) (.k false)))))))) (.i (x_.Kind==2) (.i (x_.Func != 0) (.k false) (.i (Int.ofNat x_.Items.length != 0) (.k false) (.i (x_.Op != 0) (.k false) (.i (!(x_.Bd.Kind==0&&(x_.Bd.Int==0&&(x_.Bd.Text.toList==(ByteArray.mk #[]).toList&&true)))) (.k false) (.i (!(x_.Row.Table==0&&(x_.Row.Seq==0&&true))) (.k false) (.bn (zb x_.Ag) λr6=>.i (r6) (.k false) (.i (Int.ofNat x_.Ag.length==1) (.i (decide ((0:Int)<=(0:Int))&&decide (0<Int.ofNat x_.Ag.length)) (.bn (zgu (x_.Ag.getD (Int.toNat 0) default)) λr5=>.i (!r5) (.i (decide ((0:Int)<=(0:Int))&&decide (0<Int.ofNat x_.Ag.length)) (.bn (zj4 (x_.Ag.getD (Int.toNat 0) default)) λr4=>.k (!r4)) .d) (.k false)) .d) (.k false)))))))) (.i (x_.Kind==3) (.i (x_.Func != 0) (.k false) (.i (Int.ofNat x_.Items.length != 0) (.k false) (.i (x_.Op != 0) (.k false) (.i (!(x_.Bd.Kind==0&&(x_.Bd.Int==0&&(x_.Bd.Text.toList==(ByteArray.mk #[]).toList&&true)))) (.k false) (.i (!(x_.Row.Table==0&&(x_.Row.Seq==0&&true))) (.k false) (.bn (zb x_.Ag) λr8=>.i (r8) (.k false) (.i (Int.ofNat x_.Ag.length==1) (.i (decide ((0:Int)<=(0:Int))&&decide (0<Int.ofNat x_.Ag.length)) (.bn (zek (x_.Ag.getD (Int.toNat 0) default)) λr7=>.k (!r7)) .d) (.k false)))))))) (.i (x_.Kind==4) (.i (!(x_.Row.Table==0&&(x_.Row.Seq==0&&true))) (.k false) (.bn (zb x_.Ag) λr12=>.i (r12) (.k false) (.bn (zc x_.Items) λr11=>.i (Int.ofNat x_.Ag.length==0) (.i (decide (Int.ofNat x_.Items.length>0)) (.i (!r11) (.bn (zb8 x_.Items) λr10=>.i (r10) (.bn (ziR x_.Func x_.Items x_.Op x_.Bd) λr9=>.k r9) (.k false)) (.k false)) (.k false)) (.k false)))) (.i (x_.Func != 0) (.k false) (.i (Int.ofNat x_.Items.length != 0) (.k false) (.i (x_.Op != 0) (.k false) (.i (!(x_.Bd.Kind==0&&(x_.Bd.Int==0&&(x_.Bd.Text.toList==(ByteArray.mk #[]).toList&&true)))) (.k false) (.i (!(x_.Row.Table==0&&(x_.Row.Seq==0&&true))) (.k false) (.bn (zb x_.Ag) λr14=>.i (r14) (.k false) (.k false)))))))))))
def zig (zb:yA->Bool×Bool) (ze:yB->Bool×Bool) (zc:yD->Bool×Bool) (zf:Wd->Bool×Bool) (x_:At):=(zb0 zb ze zc zf x_).fin default
theorem zD8 (zb:yA->Bool×Bool) (ze:yB->Bool×Bool) (zc:yD->Bool×Bool) (zf:Wd->Bool×Bool) (v_Row:RowID) (v_Args:yA) (v_Func:Int) (v_Items:yD) (v_Op:Int) (v_Bound:Value)  :zdu (zcC zb ze zc zf) f107 (body f107) ⟨[.pure],[]⟩ [.pure (.agg (base.enc 143 (At.mk (Int.ofNat 0) v_Row v_Args v_Func v_Items v_Op v_Bound)))]=(zb0 zb ze zc zf (At.mk (Int.ofNat 0) v_Row v_Args v_Func v_Items v_Op v_Bound)).ev noH (λr=>some (zQZ r)) none:=by kernel_rfl
theorem zDk (zb:yA->Bool×Bool) (ze:yB->Bool×Bool) (zc:yD->Bool×Bool) (zf:Wd->Bool×Bool) (v_Row:RowID) (v_Args:yA) (v_Func:Int) (v_Items:yD) (v_Op:Int) (v_Bound:Value)  :zdu (zcC zb ze zc zf) f107 (body f107) ⟨[.pure],[]⟩ [.pure (.agg (base.enc 143 (At.mk (Int.ofNat 1) v_Row v_Args v_Func v_Items v_Op v_Bound)))]=(zb0 zb ze zc zf (At.mk (Int.ofNat 1) v_Row v_Args v_Func v_Items v_Op v_Bound)).ev noH (λr=>some (zQZ r)) none:=by kernel_rfl
theorem zEh (zb:yA->Bool×Bool) (ze:yB->Bool×Bool) (zc:yD->Bool×Bool) (zf:Wd->Bool×Bool) (v_Row:RowID) (v_Args:yA) (v_Func:Int) (v_Items:yD) (v_Op:Int) (v_Bound:Value)  :zdu (zcC zb ze zc zf) f107 (body f107) ⟨[.pure],[]⟩ [.pure (.agg (base.enc 143 (At.mk (Int.ofNat 2) v_Row v_Args v_Func v_Items v_Op v_Bound)))]=(zb0 zb ze zc zf (At.mk (Int.ofNat 2) v_Row v_Args v_Func v_Items v_Op v_Bound)).ev noH (λr=>some (zQZ r)) none:=by kernel_rfl
theorem zDx (zb:yA->Bool×Bool) (ze:yB->Bool×Bool) (zc:yD->Bool×Bool) (zf:Wd->Bool×Bool) (v_Row:RowID) (v_Args:yA) (v_Func:Int) (v_Items:yD) (v_Op:Int) (v_Bound:Value)  :zdu (zcC zb ze zc zf) f107 (body f107) ⟨[.pure],[]⟩ [.pure (.agg (base.enc 143 (At.mk (Int.ofNat 3) v_Row v_Args v_Func v_Items v_Op v_Bound)))]=(zb0 zb ze zc zf (At.mk (Int.ofNat 3) v_Row v_Args v_Func v_Items v_Op v_Bound)).ev noH (λr=>some (zQZ r)) none:=by kernel_rfl
theorem zDR (zb:yA->Bool×Bool) (ze:yB->Bool×Bool) (zc:yD->Bool×Bool) (zf:Wd->Bool×Bool) (v_Row:RowID) (v_Args:yA) (v_Func:Int) (v_Items:yD) (v_Op:Int) (v_Bound:Value)  :zdu (zcC zb ze zc zf) f107 (body f107) ⟨[.pure],[]⟩ [.pure (.agg (base.enc 143 (At.mk (Int.ofNat 4) v_Row v_Args v_Func v_Items v_Op v_Bound)))]=(zb0 zb ze zc zf (At.mk (Int.ofNat 4) v_Row v_Args v_Func v_Items v_Op v_Bound)).ev noH (λr=>some (zQZ r)) none:=by kernel_rfl
theorem zDJ (zb:yA->Bool×Bool) (ze:yB->Bool×Bool) (zc:yD->Bool×Bool) (zf:Wd->Bool×Bool) (n:Nat) (v_Row:RowID) (v_Args:yA) (v_Func:Int) (v_Items:yD) (v_Op:Int) (v_Bound:Value)  :zdu (zcC zb ze zc zf) f107 (body f107) ⟨[.pure],[]⟩ [.pure (.agg (base.enc 143 (At.mk (Int.ofNat (n+5)) v_Row v_Args v_Func v_Items v_Op v_Bound)))]=(zb0 zb ze zc zf (At.mk (Int.ofNat (n+5)) v_Row v_Args v_Func v_Items v_Op v_Bound)).ev noH (λr=>some (zQZ r)) none:=by kernel_rfl
theorem zD4 (zb:yA->Bool×Bool) (ze:yB->Bool×Bool) (zc:yD->Bool×Bool) (zf:Wd->Bool×Bool) (n:Nat) (v_Row:RowID) (v_Args:yA) (v_Func:Int) (v_Items:yD) (v_Op:Int) (v_Bound:Value)  :zdu (zcC zb ze zc zf) f107 (body f107) ⟨[.pure],[]⟩ [.pure (.agg (base.enc 143 (At.mk (Int.negSucc n) v_Row v_Args v_Func v_Items v_Op v_Bound)))]=(zb0 zb ze zc zf (At.mk (Int.negSucc n) v_Row v_Args v_Func v_Items v_Op v_Bound)).ev noH (λr=>some (zQZ r)) none:=by kernel_rfl
theorem zEL (zb:yA->Bool×Bool) (ze:yB->Bool×Bool) (zc:yD->Bool×Bool) (zf:Wd->Bool×Bool) (x_:At):zdu (zcC zb ze zc zf) f107 (body f107) ⟨[.pure],[]⟩ [.pure (.agg (base.enc 143 x_))]=(zb0 zb ze zc zf x_).ev noH (λr=>some (zQZ r)) none:=by
 obtain ⟨v_Kind,v_Row,v_Args,v_Func,v_Items,v_Op,v_Bound⟩:=x_
 match v_Kind with
 | .ofNat 0=>exact zD8 zb ze zc zf v_Row v_Args v_Func v_Items v_Op v_Bound 
 | .ofNat 1=>exact zDk zb ze zc zf v_Row v_Args v_Func v_Items v_Op v_Bound 
 | .ofNat 2=>exact zEh zb ze zc zf v_Row v_Args v_Func v_Items v_Op v_Bound 
 | .ofNat 3=>exact zDx zb ze zc zf v_Row v_Args v_Func v_Items v_Op v_Bound 
 | .ofNat 4=>exact zDR zb ze zc zf v_Row v_Args v_Func v_Items v_Op v_Bound 
 | .ofNat (n+5)=>exact zDJ zb ze zc zf n v_Row v_Args v_Func v_Items v_Op v_Bound 
 | .negSucc n=>exact zD4 zb ze zc zf n v_Row v_Args v_Func v_Items v_Op v_Bound 
theorem zCv (zb:yA->Bool×Bool) (ze:yB->Bool×Bool) (zc:yD->Bool×Bool) (zf:Wd->Bool×Bool) (zkx:SdP 173 (zcd zb)) (ze6:SdP 174 (zgN ze)) (zl7:SdP 178 (zcv zc)) (ze8:SdP 179 (zcZ zf)):SdP 107 (zlk (zig zb ze zc zf)):=
 zYU (cx':=(zcC zb ze zc zf)) zrR zdj zNa (zk ⟨zrt,zv9,zgG,zkx,ze6,zs4,zxs,zsx,zl7,ze8,zmU,zwb,trivial⟩) call107 func107 (c:=body f107) (by kernel_rfl) (zjI (l:=[]) (by kernel_rfl) trivial) (sg:=⟨[.pure],[]⟩) (A:=z1X) (res:=zQZ) (W:=λx=>zb0 zb ze zc zf x.1) (z:=default) (λx=>zEL zb ze zc zf x.1) (λ_=>by kernel_rfl)
def zCj (zbC:yB->Bool×Bool):=zbG base 11 [(52,(zgN zbC))]
def zs6 (zbC:yB->Bool×Bool) (a:yB):Wy0 (Bool):=.bn (zbC a) λr0=>.i (!r0) (.k true) (.k (Int.ofNat a.length==0))
def zi8 (zbC:yB->Bool×Bool) (a:yB):=(zs6 zbC a).fin default
theorem zz8 (zbC:yB->Bool×Bool) (ztk:SdP 52 (zgN zbC)):SdP 174 (zgN (zi8 zbC)):=
 sT (cx':=(zCj zbC)) (zk ⟨ztk,trivial⟩) call174 func174 (lOK aN)
def zCc (zbC:yB->Bool×Bool):=zbG base 13 [(52,(zgN zbC))]
def zs0 (zbC:yB->Bool×Bool) (w:Wd):Wy0 (Bool):=.bn (zbC w.Ann) λr0=>.i (!r0) (.k true) (.k (Int.ofNat w.Ann.length==0))
def zja (zbC:yB->Bool×Bool) (w:Wd):=(zs0 zbC w).fin default
theorem zz6 (zbC:yB->Bool×Bool) (ztk:SdP 52 (zgN zbC)):SdP 179 (zcZ (zja zbC)):=
 sT (cx':=(zCc zbC)) (zk ⟨ztk,trivial⟩) call179 func179 (lOK aN)
def zkf (ze:yB->Bool×Bool) (zU:yA->Bool×Int):=zbG base 9 [(174,(zgN ze)),(226,(zcp zU))]
def zey (ze:yB->Bool×Bool) (zU:yA->Bool×Int) (s:yA):Wy0 (Bool):=.bn (zU s) λr0=>.k (decide (r0≥0))
def zcc (ze:yB->Bool×Bool) (zU:yA->Bool×Int) (s:yA):=(zey ze zU s).fin default
theorem zjm (ze:yB->Bool×Bool) (zU:yA->Bool×Int) (ze6:SdP 174 (zgN ze)) (zlV:SdP 226 (zcp zU)):SdP 173 (zcd (zcc ze zU)):=
 sT (cx':=(zkf ze zU)) (zk ⟨ze6,zlV,trivial⟩) call173 func173 (lOK aN)
def zln (zf:Wd->Bool×Bool) (zX:yD->Bool×Int):=zbG base 9 [(179,(zcZ zf)),(228,(zcI zX))]
def zfv (zf:Wd->Bool×Bool) (zX:yD->Bool×Int) (s:yD):Wy0 (Bool):=.bn (zX s) λr0=>.k (decide (r0≥0))
def zcx (zf:Wd->Bool×Bool) (zX:yD->Bool×Int) (s:yD):=(zfv zf zX s).fin default
theorem zkB (zf:Wd->Bool×Bool) (zX:yD->Bool×Int) (ze8:SdP 179 (zcZ zf)) (znw:SdP 228 (zcI zX)):SdP 178 (zcv (zcx zf zX)):=
 sT (cx':=(zln zf zX)) (zk ⟨ze8,znw,trivial⟩) call178 func178 (lOK aN)
abbrev zcL:=yA×Unit×Int×Int×Unit
def zk7 (ze:yB->Bool×Bool) (s:yA) (t7:Int) (t8:Int):Wy zcL Unit (Int⊕Unit):=.i (decide (t8<t7)) (.i (decide (0<=t8)&&decide (t8<Int.ofNat s.length)) (.bn (ze (s.getD t8.toNat default)) λr0=>.i (r0) (.k (.inl t8)) (.h (s,(),t7,(IntKind.i64.wrap (t8+1)),()) ())) .d) (.k (.inr ()))
def ze0 (ze:yB->Bool×Bool) (x:zcL) (y:Unit):=zk7 ze x.1 x.2.2.1 x.2.2.2.1
def zk4 (ze:yB->Bool×Bool) (n:Nat) (s:yA) (t7:Int) (t8:Int):=zD (ze0 ze) (.inl default) n (s,(),t7,t8,()) ()
def zk6:LL ty zcL:=za (lSl 51) (za (lFn 174 (zn)) (za zj (za zj zn)))
def zkU (x:zcL) (y:Unit):Nat:=(x.1.length+Int.toNat x.2.2.1+Int.toNat x.2.2.2.1+1)
def zeW (ze:yB->Bool×Bool):=zb4 base 19 [(174,(zgN ze))] [] [(2,(kpL [0,1,7,8]))] [(2,1,[]),(2,0,(kpL [4]))] [(2,spW zk6 z0j (ze0 ze) (.inl default) zpL zkU)] []
theorem zkX (ze:yB->Bool×Bool):zM (zeW ze) (lp (body f226) 0):=zu (id:=2) (hl:=rfl)
def zlA (ze:yB->Bool×Bool) (s:yA):Wy0 (Int):=.bn (zk4 ze (s.length+(Int.ofNat s.length).toNat +Int.toNat 0+1) s (Int.ofNat s.length) 0) λr2=>.i (isL r2) (.k (getL r2)) (.k (-1:Int))
def zco (ze:yB->Bool×Bool) (s:yA):=(zlA ze s).fin default
theorem zkh (ze:yB->Bool×Bool) (ze6:SdP 174 (zgN ze)):SdP 226 (zcp (zco ze)):=
 sT (cx':=(zeW ze)) (zk ⟨ze6,trivial⟩) call226 func226 (lOK (aC (zkX ze) aN))
end Go.Proofs.YtoknknbmfmddbaaGreatDoor
end
